/- Walks: the Go text computes the Lean functions (printed by a program of our own). -/
import Derived.Test.YtjmcidiplbkmpaaTaPu
import Derived.Test.YtjmcidiplbkmpaaTaAbsT
import Derived.Test.YtjmcidiplbkmpaaTaWa0
import Derived.Test.YtjmcidiplbkmpaaTaWa1
import Derived.Test.YtjmcidiplbkmpaaTaWa2
set_option linter.unusedVariables false
set_option linter.unusedSimpArgs false
set_option maxRecDepth 100000
set_option maxHeartbeats 4000000
namespace Go.TF
open Go Go.Abs Go.Proofs Go.Proofs.YtjmcidiplbkmpaaTaT
theorem w_made_Roll (k : Nat) (v0 : (List Int)) (v1 : (List Int)) (v2 : Int) (hF : made_Roll k v0 = some (v1, v2)) :
  FCall Try.prog 17 [AV.lst false false (List.map (AV.int .i64) v0)] [] (AV.ptr 0 0) [some (.cells [AV.lst false false (List.map (AV.int .i64) v1), AV.int .i64 v2])] := by
 unfold made_Roll at hF
 refine EN Try.func17 ?_
 intro c0 w0 Q h0 hQ
 refine WK [(0, Lz v0)] [] 0 (by simp) (by simp) ?_
 refine SQ [] [none] fun _ _ g r => ?_
 try simp
 and_intros <;> first | exact g _ (by kernel_rfl) | refine r _ _ _ ?_ | omega | (simp [maxLen] <;> omega)
 refine WK [(0, Lz v0)] [] 0 (by simp) (by simp) ?_
 refine SQ [] [none, none, none, none] fun _ _ g r => ?_
 try simp
 and_intros <;> first | exact g _ (by kernel_rfl) | refine r _ _ _ ?_ | omega | (simp [maxLen] <;> omega)
 refine WK [(2, AV.ptr 0 0)] [(0, .cells [Lz v0, Iz 0])] 1 (by simp) (by simp) ?_
 simp only [Option.some.injEq, Prod.mk.injEq] at hF
 obtain ⟨e0, e1⟩ := hF
 subst e0 e1
 refine AW.ret (hQ _ _ _ ?_ (matchO_0 ?_)).1
 ·simp [Try.f17]
 ·simp
theorem w_made_Mod (k : Nat) (v0 : Int) (v1 : Int) (v2 : Int) (hF : made_Mod k v0 v1 = some v2) :
  FCall Try.prog 20 [AV.int .i64 v0, AV.int .i64 v1] [] (AV.int .i64 v2) [] := by
 unfold made_Mod at hF
 refine EN Try.func20 ?_
 intro c0 w0 Q h0 hQ
 refine WK [(0, Iz v0), (1, Iz v1)] [] 0 (by simp) (by simp) ?_
 refine SQ [] [none] fun _ _ g r => ?_
 try simp
 and_intros <;> first | exact g _ (by kernel_rfl) | refine r _ _ _ ?_ | omega | (simp [maxLen] <;> omega)
 refine WK [(0, Iz v0), (1, Iz v1)] [] 0 (by simp) (by simp) ?_
 refine AW.seq fun K17 hK17 => ?_
 refine SQ [] [none, none] fun _ _ g r => ?_
 try simp
 and_intros <;> first | exact g _ (by kernel_rfl) | refine r _ _ _ ?_ | omega | (simp [maxLen] <;> omega)
 refine WK [(0, Iz v0), (1, Iz v1), (6, AV.bool (decide (v1 < 1)))] [] 0 (by simp) (by simp) ?_
 by_cases h1 : v1 < 1
 ·replace hF := ite_t h1 hF
  have h1_ := h1
  try simp at h1_
  refine CT (by simp [h1, h1_] <;> omega) ?_
  refine SQ [] [none] fun _ _ g r => ?_
  try simp [h1, h1_]
  and_intros <;> first | exact g _ (by kernel_rfl) | refine r _ _ _ ?_ | omega | (simp [h1, h1_, maxLen] <;> omega)
  refine WK [(4, Iz 0)] [] 0 (by simp [h1, h1_]) (by simp [h1, h1_]) ?_
  simp only [Option.some.injEq] at hF
  subst hF
  refine AW.ret (hQ _ _ _ ?_ (matchO_0 ?_)).1
  ·simp [Try.f20, h1, h1_]
  ·simp [h1, h1_]
 ·replace hF := ite_f h1 hF
  have h1_ := h1
  try simp at h1_
  refine CF (by simp [h1, h1_] <;> omega) ?_
  refine AW.skip ?_
  refine hK17 _ _ _ ?_
  refine SQ [] [none, none, none, none] fun _ _ g r => ?_
  obtain ⟨h2, hF⟩ := chk_elim hF
  have h2_ := h2
  try simp at h2_
  have F1 := And.intro h1 (And.intro h1_ (And.intro h2 h2_))
  try simp [F1]
  and_intros <;> first | exact g _ (by kernel_rfl) | refine r _ _ _ ?_ | omega | (simp [maxLen, F1] <;> omega)
  refine WK [(0, Iz (Int.tmod v0 v1)), (1, Iz v1)] [] 0 (by simp [F1]) (by simp [F1]) ?_
  refine AW.midF (α := Int) (fun v3 => made_Mod.J1 k v3 = some v2) (fun v3 => [(0, Iz v3)]) (fun v3 => []) 0 (fun K24 hK24 => ?_) ?_
  ·refine SQ [] [none, none] fun _ _ g r => ?_
   try simp [F1]
   and_intros <;> first | exact g _ (by kernel_rfl) | refine r _ _ _ ?_ | omega | (simp [maxLen, F1] <;> omega)
   refine WK [(0, Iz (Int.tmod v0 v1)), (1, Iz v1), (11, AV.bool (decide (Int.tmod v0 v1 < 0)))] [] 0 (by simp [F1]) (by simp [F1]) ?_
   by_cases h3 : Int.tmod v0 v1 < 0
   ·replace hF := ite_t h3 hF
    have h3_ := h3
    try simp at h3_
    have F2 := And.intro F1 (And.intro h3 h3_)
    refine CT (by simp [F2] <;> omega) ?_
    refine RG [] [none, none, none, none] fun _ _ g r => ?_
    try simp [F2]
    and_intros <;> first | exact g _ (by kernel_rfl) | refine r _ _ _ ?_ | omega | (simp [maxLen, F2] <;> omega)
    refine hK24 _ _ _ ?_
    exact JN (IntKind.wrap .i64 (Int.tmod v0 v1 + v1)) hF (by simp [F2]) (by simp [F2])
   ·replace hF := ite_f h3 hF
    have h3_ := h3
    try simp at h3_
    have F3 := And.intro F1 (And.intro h3 h3_)
    refine CF (by simp [F3] <;> omega) ?_
    refine AW.skip ?_
    refine hK24 _ _ _ ?_
    exact JN (Int.tmod v0 v1) hF (by simp [F3]) (by simp [F3])
  ·rintro v3 hF
   try dsimp only at hF
   unfold made_Mod.J1 at hF
   refine SQ [] [none, none] fun _ _ g r => ?_
   try simp [F1]
   and_intros <;> first | exact g _ (by kernel_rfl) | refine r _ _ _ ?_ | omega | (simp [maxLen, F1] <;> omega)
   refine WK [(4, Iz v3)] [] 0 (by simp [F1]) (by simp [F1]) ?_
   simp only [Option.some.injEq] at hF
   subst hF
   refine AW.ret (hQ _ _ _ ?_ (matchO_0 ?_)).1
   ·simp [Try.f20, F1]
   ·simp [F1]
theorem w_made_Dice_Next (k : Nat) (v0 : (List Int)) (v1 : Int) (v2 : Int) (v3 : Int) (v4 : Int) (hF : made_Dice_Next k v0 v1 v2 = some (v3, v4)) :
  FCall Try.prog 21 [AV.ptr 0 0, AV.int .i64 v2] [.cells [AV.lst false false (List.map (AV.int .i64) v0), AV.int .i64 v1]] (AV.int .i64 v3) [some (.cells [AV.lst false false (List.map (AV.int .i64) v0), AV.int .i64 v4])] := by
 unfold made_Dice_Next at hF
 refine EN Try.func21 ?_
 intro c0 w0 Q h0 hQ
 refine WK [(0, AV.ptr 0 0), (1, Iz v2)] [(0, .cells [Lz v0, Iz v1])] 1 (by simp) (by simp) ?_
 refine SQ [] [none] fun _ _ g r => ?_
 try simp
 and_intros <;> first | exact g _ (by kernel_rfl) | refine r _ _ _ ?_ | omega | (simp [maxLen] <;> omega)
 refine WK [(0, AV.ptr 0 0), (1, Iz v2)] [(0, .cells [Lz v0, Iz v1])] 1 (by simp) (by simp) ?_
 refine AW.seq fun K12 hK12 => ?_
 refine SQ [] [none, none, none, none, none, none, none, none, none, none] fun _ _ g r => ?_
 try simp
 and_intros <;> first | exact g _ (by kernel_rfl) | refine r _ _ _ ?_ | omega | (simp [maxLen] <;> omega)
 refine WK [(0, AV.ptr 0 0), (1, Iz v2), (14, AV.bool (decide ((v0.length : Int) ≤ v1)))] [(0, .cells [Lz v0, Iz v1])] 1 (by simp) (by simp) ?_
 by_cases h1 : (v0.length : Int) ≤ v1
 ·replace hF := ite_t h1 hF
  have h1_ := h1
  try simp at h1_
  refine CT (by simp [h1, h1_] <;> omega) ?_
  refine SQ [] [none] fun _ _ g r => ?_
  try simp [h1, h1_]
  and_intros <;> first | exact g _ (by kernel_rfl) | refine r _ _ _ ?_ | omega | (simp [h1, h1_, maxLen] <;> omega)
  refine WK [(4, Iz 0)] [(0, .cells [Lz v0, Iz v1])] 1 (by simp [h1, h1_]) (by simp [h1, h1_]) ?_
  simp only [Option.some.injEq, Prod.mk.injEq] at hF
  obtain ⟨e0, e1⟩ := hF
  subst e0 e1
  refine AW.ret (hQ _ _ _ ?_ (matchO_0 ?_)).1
  ·simp [Try.f21, h1, h1_]
  ·simp [h1, h1_]
 ·replace hF := ite_f h1 hF
  have h1_ := h1
  try simp at h1_
  refine CF (by simp [h1, h1_] <;> omega) ?_
  refine AW.skip ?_
  refine hK12 _ _ _ ?_
  refine SQ [] [none, none, none, none, none, none, none, none] fun _ _ g r => ?_
  try simp [h1, h1_]
  and_intros <;> first | exact g _ (by kernel_rfl) | refine r _ _ _ ?_ | omega | (simp [h1, h1_, maxLen] <;> omega)
  refine WK [(0, AV.ptr 0 0), (1, Iz v2)] [(0, .cells [Lz v0, Iz (IntKind.wrap .i64 (v1 + 1))])] 1 (by simp [h1, h1_]) (by simp [h1, h1_]) ?_
  refine SQ [] [none, none, none, none, none, none, none, none, none, none, none, none, none, none] fun _ _ g r => ?_
  obtain ⟨v5, h2, h3, h4, hF⟩ := idx_elim hF
  have h4_ := get_of h4
  try simp at h4_
  have h3_ := h3
  try simp at h3_
  have F1 := And.intro h1 (And.intro h1_ (And.intro h2 (And.intro h3 (And.intro h4 (And.intro h4_ h3_)))))
  try simp [F1]
  and_intros
  try any_goals first | omega | (simp [maxLen, F1] <;> omega)
  obtain ⟨v6, h5, hF⟩ := bnd1_elim hF
  refine AC (w_made_Mod k _ _ _ h5) (.cons (.same (by simp [F1])) (.cons (.same (by simp [F1])) .nil)) ?_
  try simp [F1]
  and_intros <;> first | exact g _ (by kernel_rfl) | refine r _ _ _ ?_ | omega | (simp [maxLen, F1] <;> omega)
  refine WK [(4, Iz v6)] [(0, .cells [Lz v0, Iz (IntKind.wrap .i64 (v1 + 1))])] 1 (by simp [F1]) (by simp [F1]) ?_
  simp only [Option.some.injEq, Prod.mk.injEq] at hF
  obtain ⟨e0, e1⟩ := hF
  subst e0 e1
  refine AW.ret (hQ _ _ _ ?_ (matchO_0 ?_)).1
  ·simp [Try.f21, F1]
  ·simp [F1]
theorem w_made_Dice_Of (k : Nat) (v0 : (List Int)) (v1 : Int) (v2 : (List Int)) (v3 : Int) (v4 : Int) (hF : made_Dice_Of k v0 v1 v2 = some (v3, v4)) :
  FCall Try.prog 22 [AV.ptr 0 0, AV.lst false false (List.map (AV.int .i64) v2)] [.cells [AV.lst false false (List.map (AV.int .i64) v0), AV.int .i64 v1]] (AV.int .i64 v3) [some (.cells [AV.lst false false (List.map (AV.int .i64) v0), AV.int .i64 v4])] := by
 unfold made_Dice_Of at hF
 refine EN Try.func22 ?_
 intro c0 w0 Q h0 hQ
 refine WK [(0, AV.ptr 0 0), (1, Lz v2)] [(0, .cells [Lz v0, Iz v1])] 1 (by simp) (by simp) ?_
 refine SQ [] [none] fun _ _ g r => ?_
 try simp
 and_intros <;> first | exact g _ (by kernel_rfl) | refine r _ _ _ ?_ | omega | (simp [maxLen] <;> omega)
 refine WK [(0, AV.ptr 0 0), (1, Lz v2)] [(0, .cells [Lz v0, Iz v1])] 1 (by simp) (by simp) ?_
 refine SQ [] [none, none, none, none, none, none, none, none] fun _ _ g r => ?_
 try simp
 and_intros
 try any_goals first | omega | (simp [maxLen] <;> omega)
 obtain ⟨v5, v6, h1, hF⟩ := bnd2_elim hF
 refine aCall_l (w_made_Dice_Next k _ _ _ _ _ h1) (by simp) [0] [] [0] rfl (.cons (.same (by simp)) (.cons (.same (by simp)) .nil)) (by simp) (by decide) (by simp) (by simp) (.inl rfl) (by simp) (by simp) ?_
 obtain ⟨v7, h2, h3, h4, hF⟩ := idx_elim hF
 have h4_ := get_of h4
 try simp at h4_
 have h3_ := h3
 try simp at h3_
 have F1 := And.intro h2 (And.intro h3 (And.intro h4 (And.intro h4_ h3_)))
 try simp [F1]
 and_intros <;> first | exact g _ (by kernel_rfl) | refine r _ _ _ ?_ | omega | (simp [maxLen, F1] <;> omega)
 refine WK [(4, Iz v7)] [(0, .cells [Lz v0, Iz v6])] 1 (by simp [F1]) (by simp [F1]) ?_
 simp only [Option.some.injEq, Prod.mk.injEq] at hF
 obtain ⟨e0, e1⟩ := hF
 subst e0 e1
 refine AW.ret (hQ _ _ _ ?_ (matchO_0 ?_)).1
 ·simp [Try.f22, F1]
 ·simp [F1]
theorem w_made_Dice_Network (k : Nat) (v0 : (List Int)) (v1 : Int) (v2 : Int) (v3 : (List api_Arc)) (v4 : Int) (hF : made_Dice_Network k v0 v1 = some (v2, v3, v4)) :
  FCall Try.prog 18 [AV.ptr 0 0] [.cells [AV.lst false false (List.map (AV.int .i64) v0), AV.int .i64 v1]] (AV.agg [AV.int .i64 v2, AV.lst false false (List.map api_Arc.av v3)]) [some (.cells [AV.lst false false (List.map (AV.int .i64) v0), AV.int .i64 v4])] := by
 unfold made_Dice_Network at hF
 refine EN Try.func18 ?_
 intro c0 w0 Q h0 hQ
 refine WK [(0, AV.ptr 0 0)] [(0, .cells [Lz v0, Iz v1])] 1 (by simp) (by simp) ?_
 refine SQ [] [none] fun _ _ g r => ?_
 try simp
 and_intros <;> first | exact g _ (by kernel_rfl) | refine r _ _ _ ?_ | omega | (simp [maxLen] <;> omega)
 refine WK [(0, AV.ptr 0 0), (2, AV.ptr 1 0)] [(0, .cells [Lz v0, Iz v1]), (1, .cells [Iz 0, AV.lst true true (List.map api_Arc.av ([] : List api_Arc))])] 2 (by simp) (by simp) ?_
 refine SQ [] [none, none, none, none, none, none] fun _ _ g r => ?_
 try simp
 and_intros
 try any_goals first | omega | (simp [maxLen] <;> omega)
 obtain ⟨v5, v6, h1, hF⟩ := bnd2_elim hF
 refine aCall_l (w_made_Dice_Next k _ _ _ _ _ h1) (by simp) [0] [] [0] rfl (.cons (.same (by simp)) (.cons (.same (by simp)) .nil)) (by simp) (by decide) (by simp) (by simp) (.inl rfl) (by simp) (by simp) ?_
 try simp
 and_intros <;> first | exact g _ (by kernel_rfl) | refine r _ _ _ ?_ | omega | (simp [maxLen] <;> omega)
 refine WK [(0, AV.ptr 0 0), (2, AV.ptr 1 0), (3, AV.ptr 2 0)] [(0, .cells [Lz v0, Iz v6]), (1, .cells [Iz 0, AV.lst true true (List.map api_Arc.av ([] : List api_Arc))]), (2, .cells [Iz (IntKind.wrap .i64 (2 + v5)), AV.lst true true (List.map api_Arc.av ([] : List api_Arc))])] 3 (by simp) (by simp) ?_
 refine AW.seq fun K385 hK385 => ?_
 refine SQ [] [none, none, none] fun _ _ g r => ?_
 try simp
 and_intros
 try any_goals first | omega | (simp [maxLen] <;> omega)
 obtain ⟨v7, v8, h2, hF⟩ := bnd2_elim hF
 refine aCall_l (w_made_Dice_Next k _ _ _ _ _ h2) (by simp) [0] [] [0] rfl (.cons (.same (by simp)) (.cons (.same (by simp)) .nil)) (by simp) (by decide) (by simp) (by simp) (.inl rfl) (by simp) (by simp) ?_
 try simp
 and_intros <;> first | exact g _ (by kernel_rfl) | refine r _ _ _ ?_ | omega | (simp [maxLen] <;> omega)
 refine WK [(0, AV.ptr 0 0), (2, AV.ptr 1 0), (3, AV.ptr 2 0), (4, Iz v7)] [(0, .cells [Lz v0, Iz v8]), (1, .cells [Iz 0, AV.lst true true (List.map api_Arc.av ([] : List api_Arc))]), (2, .cells [Iz (IntKind.wrap .i64 (2 + v5)), AV.lst true true (List.map api_Arc.av ([] : List api_Arc))])] 3 (by simp) (by simp) ?_
 refine AW.block ?_
 refine AW.ownC 1 1 3 true (cs := [Iz 0, AV.lst true true (List.map api_Arc.av ([] : List api_Arc))]) (by simp) (by simp) ?_
 refine AW.ownC 2 1 3 true (cs := [Iz (IntKind.wrap .i64 (2 + v5)), AV.lst true true (List.map api_Arc.av ([] : List api_Arc))]) (by simp) (by simp) ?_
 refine AW.rnm (m := 1) h0 [(0, 0), (1, 1), (2, 3), (3, 2), (4, 4)] [(0, AV.ptr 0 0), (2, AV.ptr 1 0), (3, AV.ptr 3 0), (4, Iz v7)] [(0, .cells [Lz v0, Iz v8]), (1, .cells [Iz 0, AV.slc 2 0 3 (([] : List api_Arc).length) false]), (2, .grow (flatA (List.map api_Arc.av ([] : List api_Arc)))), (3, .cells [Iz (IntKind.wrap .i64 (2 + v5)), AV.slc 4 0 3 (([] : List api_Arc).length) false]), (4, .grow (flatA (List.map api_Arc.av ([] : List api_Arc))))] 5 (by decide) (by decide) (by decide) rfl (by simp) (by simp) ?_
 refine AW.loopF (α := (Int × Int × (List api_Arc))) (fun n (v9, v10, v11) => made_Dice_Network.L1 k v0 v5 n v9 v10 v11 = some (v2, v3, v4)) (fun (v9, v10, v11) => [(0, AV.ptr 0 0), (2, AV.ptr 1 0), (3, AV.ptr 3 0), (4, Iz v9)]) (fun (v9, v10, v11) => [(0, .cells [Lz v0, Iz v10]), (1, .cells [Iz 0, AV.slc 2 0 3 (([] : List api_Arc).length) false]), (2, .grow (flatA (List.map api_Arc.av ([] : List api_Arc)))), (3, .cells [Iz (IntKind.wrap .i64 (2 + v5)), AV.slc 4 0 3 v11.length false]), (4, .grow (flatA (List.map api_Arc.av v11)))]) 5 k ((v7, v8, ([] : List api_Arc))) hF (by simp) (by simp) (by simp) ?_
 rintro (_|n1) ⟨v9, v10, v11⟩ hF K480 hK480
 ·try dsimp only at hF
  rw [made_Dice_Network.L1] at hF; cases hF
 try dsimp only at hF
 rw [made_Dice_Network.L1] at hF
 refine AW.seq fun K482 hK482 => ?_
 refine SQ [] [none, none] fun _ _ g r => ?_
 try simp
 and_intros <;> first | exact g _ (by kernel_rfl) | refine r _ _ _ ?_ | omega | (simp [maxLen] <;> omega)
 refine WK [(0, AV.ptr 0 0), (2, AV.ptr 1 0), (3, AV.ptr 3 0), (4, Iz v9), (13, AV.bool (decide (0 < v9)))] [(0, .cells [Lz v0, Iz v10]), (1, .cells [Iz 0, AV.slc 2 0 3 (([] : List api_Arc).length) false]), (2, .grow (flatA (List.map api_Arc.av ([] : List api_Arc)))), (3, .cells [Iz (IntKind.wrap .i64 (2 + v5)), AV.slc 4 0 3 v11.length false]), (4, .grow (flatA (List.map api_Arc.av v11)))] 5 (by simp) (by simp) ?_
 by_cases h3 : 0 < v9
 ·replace hF := ite_t h3 hF
  have h3_ := h3
  try simp at h3_
  refine CT (by simp [h3, h3_] <;> omega) ?_
  refine AW.skip ?_
  refine hK482 _ _ _ ?_
  refine AW.midF (α := (Int × (List api_Arc))) (fun (v12, v13) => made_Dice_Network.J2 k v9 (fun v9_ v10_ v11_ => made_Dice_Network.L1 k v0 v5 n1 v9_ v10_ v11_) v12 v13 = some (v2, v3, v4)) (fun (v12, v13) => [(0, AV.ptr 0 0), (2, AV.ptr 1 0), (3, AV.ptr 3 0), (4, Iz v9)]) (fun (v12, v13) => [(0, .cells [Lz v0, Iz v12]), (1, .cells [Iz 0, AV.slc 2 0 3 (([] : List api_Arc).length) false]), (2, .grow (flatA (List.map api_Arc.av ([] : List api_Arc)))), (3, .cells [Iz (IntKind.wrap .i64 (2 + v5)), AV.slc 4 0 3 v13.length false]), (4, .grow (flatA (List.map api_Arc.av v13)))]) 5 (fun K498 hK498 => ?_) ?_
  ·refine AW.block ?_
   refine SQ [] [none, none, none, none, none, none, none, none, none, none, none, none, none, none] fun _ _ g r => ?_
   try simp [h3, h3_]
   and_intros
   try any_goals first | omega | (simp [h3, h3_, maxLen] <;> omega)
   obtain ⟨v14, v15, h4, hF⟩ := bnd2_elim hF
   refine aCall_l (w_made_Dice_Next k _ _ _ _ _ h4) (by simp) [0] [] [0] rfl (.cons (.same (by simp [h3, h3_])) (.cons (.same (by simp [h3, h3_])) .nil)) (by simp [h3, h3_]) (by decide) (by simp) (by simp) (.inl rfl) (by simp) (by simp) ?_
   try simp [h3, h3_]
   and_intros
   try any_goals first | omega | (simp [h3, h3_, maxLen] <;> omega)
   obtain ⟨v16, v17, h5, hF⟩ := bnd2_elim hF
   refine aCall_l (w_made_Dice_Next k _ _ _ _ _ h5) (by simp) [0] [] [0] rfl (.cons (.same (by simp [h3, h3_])) (.cons (.same (by simp [h3, h3_])) .nil)) (by simp [h3, h3_]) (by decide) (by simp) (by simp) (.inl rfl) (by simp) (by simp) ?_
   try simp [h3, h3_]
   and_intros
   try any_goals first | omega | (simp [h3, h3_, maxLen] <;> omega)
   obtain ⟨v18, v19, h6, hF⟩ := bnd2_elim hF
   refine aCall_l (w_made_Dice_Of k _ _ _ _ _ h6) (by simp) [0] [] [0] rfl (.cons (.same (by simp [h3, h3_])) (.cons (Coe.fl (by simp [h3, h3_])) .nil)) (by simp [h3, h3_]) (by decide) (by simp) (by simp) (.inl rfl) (by simp) (by simp) ?_
   try simp [h3, h3_]
   and_intros <;> first | exact g _ (by kernel_rfl) | refine r _ _ _ ?_ | omega | (simp [h3, h3_, maxLen] <;> omega)
   refine WK [(0, AV.ptr 0 0), (2, AV.ptr 1 0), (3, AV.ptr 3 0), (4, Iz v9), (5, AV.ptr 5 0)] [(0, .cells [Lz v0, Iz v19]), (1, .cells [Iz 0, AV.slc 2 0 3 (([] : List api_Arc).length) false]), (2, .grow (flatA (List.map api_Arc.av ([] : List api_Arc)))), (3, .cells [Iz (IntKind.wrap .i64 (2 + v5)), AV.slc 4 0 3 v11.length false]), (4, .grow (flatA (List.map api_Arc.av v11))), (5, .cells [Iz v14, Iz v16, Iz v18])] 6 (by simp [h3, h3_]) (by simp [h3, h3_]) ?_
   refine AW.midF (α := Int) (fun v20 => made_Dice_Network.J3 k v9 v11 v16 v18 v19 (fun v9_ v10_ v11_ => made_Dice_Network.L1 k v0 v5 n1 v9_ v10_ v11_) v20 = some (v2, v3, v4)) (fun v20 => [(0, AV.ptr 0 0), (2, AV.ptr 1 0), (3, AV.ptr 3 0), (4, Iz v9), (5, AV.ptr 5 0)]) (fun v20 => [(0, .cells [Lz v0, Iz v19]), (1, .cells [Iz 0, AV.slc 2 0 3 (([] : List api_Arc).length) false]), (2, .grow (flatA (List.map api_Arc.av ([] : List api_Arc)))), (3, .cells [Iz (IntKind.wrap .i64 (2 + v5)), AV.slc 4 0 3 v11.length false]), (4, .grow (flatA (List.map api_Arc.av v11))), (5, .cells [Iz v20, Iz v16, Iz v18])]) 6 (fun K509 hK509 => ?_) ?_
   ·refine SQ [] [none, none, none] fun _ _ g r => ?_
    try simp [h3, h3_]
    and_intros <;> first | exact g _ (by kernel_rfl) | refine r _ _ _ ?_ | omega | (simp [h3, h3_, maxLen] <;> omega)
    refine WK [(0, AV.ptr 0 0), (2, AV.ptr 1 0), (3, AV.ptr 3 0), (4, Iz v9), (5, AV.ptr 5 0), (30, AV.bool (v14 == 1))] [(0, .cells [Lz v0, Iz v19]), (1, .cells [Iz 0, AV.slc 2 0 3 (([] : List api_Arc).length) false]), (2, .grow (flatA (List.map api_Arc.av ([] : List api_Arc)))), (3, .cells [Iz (IntKind.wrap .i64 (2 + v5)), AV.slc 4 0 3 v11.length false]), (4, .grow (flatA (List.map api_Arc.av v11))), (5, .cells [Iz v14, Iz v16, Iz v18])] 6 (by simp [h3, h3_]) (by simp [h3, h3_]) ?_
    by_cases h10 : v14 = 1
    ·replace hF := ite_t h10 hF
     have h10q : v14 = 1 := h10
     have h10_ := eqb_t h10q
     have h10__ := neb_f h10q
     have F1 := And.intro h3 (And.intro h3_ (And.intro h10_ (And.intro h10__ h10q)))
     refine CT (by simp [F1] <;> omega) ?_
     refine RG [] [none, none] fun _ _ g r => ?_
     try simp [F1]
     and_intros <;> first | exact g _ (by kernel_rfl) | refine r _ _ _ ?_ | omega | (simp [maxLen, F1] <;> omega)
     refine hK509 _ _ _ ?_
     exact JN (0) hF (by simp [F1]) (by simp [F1])
    ·replace hF := ite_f h10 hF
     have h10_ := eqb_f h10
     have h10__ := neb_t h10
     have F2 := And.intro h3 (And.intro h3_ (And.intro h10 (And.intro h10_ h10__)))
     refine CF (by simp [F2] <;> omega) ?_
     refine AW.skip ?_
     refine hK509 _ _ _ ?_
     exact JN (v14) hF (by simp [F2]) (by simp [F2])
   ·rintro v20 hF
    try dsimp only at hF
    unfold made_Dice_Network.J3 at hF
    refine AW.midF (α := Int) (fun v21 => made_Dice_Network.J4 k v9 v11 v18 v19 v20 (fun v9_ v10_ v11_ => made_Dice_Network.L1 k v0 v5 n1 v9_ v10_ v11_) v21 = some (v2, v3, v4)) (fun v21 => [(0, AV.ptr 0 0), (2, AV.ptr 1 0), (3, AV.ptr 3 0), (4, Iz v9), (5, AV.ptr 5 0)]) (fun v21 => [(0, .cells [Lz v0, Iz v19]), (1, .cells [Iz 0, AV.slc 2 0 3 (([] : List api_Arc).length) false]), (2, .grow (flatA (List.map api_Arc.av ([] : List api_Arc)))), (3, .cells [Iz (IntKind.wrap .i64 (2 + v5)), AV.slc 4 0 3 v11.length false]), (4, .grow (flatA (List.map api_Arc.av v11))), (5, .cells [Iz v20, Iz v21, Iz v18])]) 6 (fun K506 hK506 => ?_) ?_
    ·refine SQ [] [none, none, none] fun _ _ g r => ?_
     try simp [h3, h3_]
     and_intros <;> first | exact g _ (by kernel_rfl) | refine r _ _ _ ?_ | omega | (simp [h3, h3_, maxLen] <;> omega)
     refine WK [(0, AV.ptr 0 0), (2, AV.ptr 1 0), (3, AV.ptr 3 0), (4, Iz v9), (5, AV.ptr 5 0), (34, AV.bool (v16 == 0))] [(0, .cells [Lz v0, Iz v19]), (1, .cells [Iz 0, AV.slc 2 0 3 (([] : List api_Arc).length) false]), (2, .grow (flatA (List.map api_Arc.av ([] : List api_Arc)))), (3, .cells [Iz (IntKind.wrap .i64 (2 + v5)), AV.slc 4 0 3 v11.length false]), (4, .grow (flatA (List.map api_Arc.av v11))), (5, .cells [Iz v20, Iz v16, Iz v18])] 6 (by simp [h3, h3_]) (by simp [h3, h3_]) ?_
     by_cases h9 : v16 = 0
     ·replace hF := ite_t h9 hF
      have h9q : v16 = 0 := h9
      have h9_ := eqb_t h9q
      have h9__ := neb_f h9q
      have F3 := And.intro h3 (And.intro h3_ (And.intro h9_ (And.intro h9__ h9q)))
      refine CT (by simp [F3] <;> omega) ?_
      refine RG [] [none, none] fun _ _ g r => ?_
      try simp [F3]
      and_intros <;> first | exact g _ (by kernel_rfl) | refine r _ _ _ ?_ | omega | (simp [maxLen, F3] <;> omega)
      refine hK506 _ _ _ ?_
      exact JN (1) hF (by simp [F3]) (by simp [F3])
     ·replace hF := ite_f h9 hF
      have h9_ := eqb_f h9
      have h9__ := neb_t h9
      have F4 := And.intro h3 (And.intro h3_ (And.intro h9 (And.intro h9_ h9__)))
      refine CF (by simp [F4] <;> omega) ?_
      refine AW.skip ?_
      refine hK506 _ _ _ ?_
      exact JN (v16) hF (by simp [F4]) (by simp [F4])
    ·rintro v21 hF
     try dsimp only at hF
     unfold made_Dice_Network.J4 at hF
     refine SQ [] [none, none, none, none, none] fun _ _ g r => ?_
     try simp [h3, h3_]
     and_intros <;> first | exact g _ (by kernel_rfl) | refine r _ _ _ ?_ | omega | (simp [h3, h3_, maxLen] <;> omega)
     refine WK [(0, AV.ptr 0 0), (2, AV.ptr 1 0), (3, AV.ptr 3 0), (4, Iz v9), (5, AV.ptr 5 0), (40, AV.bool (v20 != v21))] [(0, .cells [Lz v0, Iz v19]), (1, .cells [Iz 0, AV.slc 2 0 3 (([] : List api_Arc).length) false]), (2, .grow (flatA (List.map api_Arc.av ([] : List api_Arc)))), (3, .cells [Iz (IntKind.wrap .i64 (2 + v5)), AV.slc 4 0 3 v11.length false]), (4, .grow (flatA (List.map api_Arc.av v11))), (5, .cells [Iz v20, Iz v21, Iz v18])] 6 (by simp [h3, h3_]) (by simp [h3, h3_]) ?_
     by_cases h7 : v20 ≠ v21
     ·replace hF := ite_t h7 hF
      have h7_ := eqb_f h7
      have h7__ := neb_t h7
      refine CT (by simp [h3, h3_, h7, h7_, h7__] <;> omega) ?_
      refine RG [] [none, none, none, none, none, none, none] fun _ _ g r => ?_
      obtain ⟨h8, hF⟩ := chk_elim hF
      have h8_ := h8
      try simp at h8_
      have F5 := And.intro h3 (And.intro h3_ (And.intro h7 (And.intro h7_ (And.intro h7__ h8))))
      try simp [F5]
      and_intros <;> first | exact g _ (by kernel_rfl) | refine r _ _ _ ?_ | omega | (simp [maxLen, F5] <;> omega)
      refine hK498 _ _ _ ?_
      refine Can.weak [(0, AV.ptr 0 0), (2, AV.ptr 1 0), (3, AV.ptr 3 0), (4, Iz v9)] [(0, .cells [Lz v0, Iz v19]), (1, .cells [Iz 0, AV.slc 2 0 3 (([] : List api_Arc).length) false]), (2, .grow (flatA (List.map api_Arc.av ([] : List api_Arc)))), (3, .cells [Iz (IntKind.wrap .i64 (2 + v5)), AV.slc 6 0 3 ((v11 ++ ([(api_Arc.mk v20 v21 v18)] : List api_Arc)).length) false]), (6, .grow (flatA (List.map api_Arc.av (v11 ++ ([(api_Arc.mk v20 v21 v18)] : List api_Arc)))))] 7 (by simp [F5]) (by simp [F5] <;> omega) (by simp) ?_
      refine Can.ren (m := 1) h0 [(0, 0), (1, 1), (2, 2), (3, 3), (4, 6)] [(0, AV.ptr 0 0), (2, AV.ptr 1 0), (3, AV.ptr 3 0), (4, Iz v9)] [(0, .cells [Lz v0, Iz v19]), (1, .cells [Iz 0, AV.slc 2 0 3 (([] : List api_Arc).length) false]), (2, .grow (flatA (List.map api_Arc.av ([] : List api_Arc)))), (3, .cells [Iz (IntKind.wrap .i64 (2 + v5)), AV.slc 4 0 3 ((v11 ++ ([(api_Arc.mk v20 v21 v18)] : List api_Arc)).length) false]), (4, .grow (flatA (List.map api_Arc.av (v11 ++ ([(api_Arc.mk v20 v21 v18)] : List api_Arc)))))] 5 (by decide) (by decide) (by decide) rfl (by simp [F5]) (by simp [F5]) ?_
      exact JN ((v19, v11 ++ ([(api_Arc.mk v20 v21 v18)] : List api_Arc))) hF (by simp [F5]) (by simp [F5])
     ·replace hF := ite_f h7 hF
      have h7q : v20 = v21 := Classical.not_not.1 h7
      have h7_ := eqb_t h7q
      have h7__ := neb_f h7q
      have F6 := And.intro h3 (And.intro h3_ (And.intro h7_ h7__))
      refine CF (by simp [F6] <;> omega) ?_
      refine AW.skip ?_
      refine hK498 _ _ _ ?_
      refine Can.ren (m := 1) h0 [(0, 0), (1, 1), (2, 2), (3, 3), (4, 4)] [(0, AV.ptr 0 0), (2, AV.ptr 1 0), (3, AV.ptr 3 0), (4, Iz v9)] [(0, .cells [Lz v0, Iz v19]), (1, .cells [Iz 0, AV.slc 2 0 3 (([] : List api_Arc).length) false]), (2, .grow (flatA (List.map api_Arc.av ([] : List api_Arc)))), (3, .cells [Iz (IntKind.wrap .i64 (2 + v5)), AV.slc 4 0 3 v11.length false]), (4, .grow (flatA (List.map api_Arc.av v11)))] 5 (by decide) (by decide) (by decide) rfl (by simp [F6]) (by simp [F6]) ?_
      exact JN ((v19, v11)) hF (by simp [F6]) (by simp [F6])
  ·rintro ⟨v12, v13⟩ hF
   try dsimp only at hF
   unfold made_Dice_Network.J2 at hF
   refine RG [] [none, none, none] fun _ _ g r => ?_
   try simp [h3, h3_]
   and_intros <;> first | exact g _ (by kernel_rfl) | refine r _ _ _ ?_ | omega | (simp [h3, h3_, maxLen] <;> omega)
   refine hK480 _ _ _ ?_
   exact NX (k' := n1) ((IntKind.wrap .i64 (v9 - 1), v12, v13)) hF (by simp [h3, h3_]) (by simp [h3, h3_])
 ·replace hF := ite_f h3 hF
  have h3_ := h3
  try simp at h3_
  refine CF (by simp [h3, h3_] <;> omega) ?_
  refine AW.exit ?_
  try simp
  refine hK385 _ _ _ ?_
  refine SQ [] [none, none] fun _ _ g r => ?_
  try simp [h3, h3_]
  and_intros <;> first | exact g _ (by kernel_rfl) | refine r _ _ _ ?_ | omega | (simp [h3, h3_, maxLen] <;> omega)
  refine WK [(2, AV.ptr 1 0)] [(0, .cells [Lz v0, Iz v10]), (1, .cells [Iz (IntKind.wrap .i64 (2 + v5)), AV.slc 4 0 3 v11.length false]), (4, .grow (flatA (List.map api_Arc.av v11)))] 5 (by simp [h3, h3_]) (by simp [h3, h3_]) ?_
  refine WK [(2, AV.ptr 1 0)] [(0, .cells [Lz v0, Iz v10]), (1, .cells [Iz (IntKind.wrap .i64 (2 + v5)), AV.slc 4 0 3 v11.length false]), (4, .grow (flatA (List.map api_Arc.av v11)))] 5 (by simp [h3, h3_]) (by simp [h3, h3_]) ?_
  refine AW.frz 4 (o := .grow (flatA (List.map api_Arc.av v11))) (by simp [h3, h3_]) rfl [] [(1, .cells [Iz (IntKind.wrap .i64 (2 + v5)), AV.lst false false (List.map api_Arc.av v11)])] trivial ⟨⟨by simp, AObj.cells [Iz (IntKind.wrap .i64 (2 + v5)), AV.slc 4 0 3 v11.length false], by simp [h3, h3_], (.mk (.cons (.same _) (.cons (.l (by simp) (by simp) (by simp) (by simp)) .nil)))⟩, trivial⟩ ?_
  simp only [Option.some.injEq, Prod.mk.injEq] at hF
  obtain ⟨e0, e1, e2⟩ := hF
  subst e0 e1 e2
  refine AW.ret (hQ _ _ _ ?_ (matchO_0 ?_)).1
  ·simp [Try.f18, h3, h3_]
  ·simp [h3, h3_]
theorem w_law15_FlowTurned (k : Nat) (v0 : (List Int)) (v1 : Bool) (hF : law15_FlowTurned k v0 = some v1) :
  FCall Try.prog 7 [AV.lst false false (List.map (AV.int .i64) v0)] [] (AV.bool v1) [] := by
 unfold law15_FlowTurned at hF
 refine EN Try.func7 ?_
 intro c0 w0 Q h0 hQ
 refine WK [(0, Lz v0)] [] 0 (by simp) (by simp) ?_
 refine SQ [] [none] fun _ _ g r => ?_
 try simp
 and_intros <;> first | exact g _ (by kernel_rfl) | refine r _ _ _ ?_ | omega | (simp [maxLen] <;> omega)
 refine WK [(0, Lz v0)] [] 0 (by simp) (by simp) ?_
 refine AW.seq fun K141 hK141 => ?_
 refine SQ [] [none, none, none] fun _ _ g r => ?_
 try simp
 and_intros
 try any_goals first | omega | (simp [maxLen] <;> omega)
 obtain ⟨v2, h1, hF⟩ := bnd1_elim hF
 refine AC (w_made_Light k _ _ h1) (.cons (.same (by simp)) .nil) ?_
 try simp
 and_intros <;> first | exact g _ (by kernel_rfl) | refine r _ _ _ ?_ | omega | (simp [maxLen] <;> omega)
 refine WK [(0, Lz v0), (18, AV.bool (!v2))] [] 0 (by simp) (by simp) ?_
 by_cases h2 : (!v2) = true
 ·replace hF := ite_t h2 hF
  have h2_ := h2
  try simp at h2_
  refine CT (by simp [h2, h2_] <;> omega) ?_
  refine SQ [] [none, none] fun _ _ g r => ?_
  try simp [h2, h2_]
  and_intros
  try any_goals first | omega | (simp [h2, h2_, maxLen] <;> omega)
  obtain ⟨v3, h3, hF⟩ := bnd1_elim hF
  refine AC (w_law15_awake k _ h3) .nil ?_
  try simp [h2, h2_]
  and_intros <;> first | exact g _ (by kernel_rfl) | refine r _ _ _ ?_ | omega | (simp [h2, h2_, maxLen] <;> omega)
  refine WK [(2, AV.bool v3)] [] 0 (by simp [h2, h2_]) (by simp [h2, h2_]) ?_
  simp only [Option.some.injEq] at hF
  subst hF
  refine AW.ret (hQ _ _ _ ?_ (matchO_0 ?_)).1
  ·simp [Try.f7, h2, h2_]
  ·simp [h2, h2_]
 ·replace hF := ite_f h2 hF
  have h2_ := h2
  try simp at h2_
  refine CF (by simp [h2, h2_] <;> omega) ?_
  refine AW.skip ?_
  refine hK141 _ _ _ ?_
  refine SQ [] [none, none, none] fun _ _ g r => ?_
  try simp [h2, h2_]
  and_intros
  try any_goals first | omega | (simp [h2, h2_, maxLen] <;> omega)
  obtain ⟨v4, v5, h4, hF⟩ := bnd2_elim hF
  refine AC (w_made_Roll k _ _ _ h4) (.cons (.same (by simp [h2, h2_])) .nil) ?_
  try simp [h2, h2_]
  and_intros <;> first | exact g _ (by kernel_rfl) | refine r _ _ _ ?_ | omega | (simp [h2, h2_, maxLen] <;> omega)
  refine WK [(3, AV.ptr 0 0)] [(0, .cells [Lz v4, Iz v5])] 1 (by simp [h2, h2_]) (by simp [h2, h2_]) ?_
  refine SQ [] [none, none, none, none] fun _ _ g r => ?_
  try simp [h2, h2_]
  and_intros
  try any_goals first | omega | (simp [h2, h2_, maxLen] <;> omega)
  obtain ⟨v6, v7, v8, h5, hF⟩ := bnd3_elim hF
  refine aCall_l (w_made_Dice_Network k _ _ _ _ _ h5) (by simp) [0] [] [0] rfl (.cons (.same (by simp [h2, h2_])) .nil) (by simp [h2, h2_]) (by decide) (by simp) (by simp) (.inl rfl) (by simp) (by simp) ?_
  try simp [h2, h2_]
  and_intros <;> first | exact g _ (by kernel_rfl) | refine r _ _ _ ?_ | omega | (simp [h2, h2_, maxLen] <;> omega)
  refine WK [(4, AV.ptr 1 0)] [(1, .cells [Iz v6, AV.lst false false (List.map api_Arc.av v7)])] 2 (by simp [h2, h2_]) (by simp [h2, h2_]) ?_
  refine SQ [] [none, none, none, none, none] fun _ _ g r => ?_
  try simp [h2, h2_]
  and_intros <;> first | exact g _ (by kernel_rfl) | refine r _ _ _ ?_ | omega | (simp [h2, h2_, maxLen] <;> omega)
  refine WK [(4, AV.ptr 1 0), (5, AV.ptr 2 0)] [(1, .cells [Iz v6, AV.lst false false (List.map api_Arc.av v7)]), (2, .cells [Iz v6, AV.lst true true (List.map api_Arc.av ([] : List api_Arc))])] 3 (by simp [h2, h2_]) (by simp [h2, h2_]) ?_
  refine SQ [] [none, none, none, none, none] fun _ _ g r => ?_
  try simp [h2, h2_]
  and_intros <;> first | exact g _ (by kernel_rfl) | refine r _ _ _ ?_ | omega | (simp [h2, h2_, maxLen] <;> omega)
  refine WK [(4, AV.ptr 1 0), (5, AV.ptr 2 0), (6, AV.ptr 3 0)] [(1, .cells [Iz v6, AV.lst false false (List.map api_Arc.av v7)]), (2, .cells [Iz v6, AV.lst true true (List.map api_Arc.av ([] : List api_Arc))]), (3, .cells [Iz v6, AV.lst true true (List.map api_Arc.av ([] : List api_Arc))])] 4 (by simp [h2, h2_]) (by simp [h2, h2_]) ?_
  refine AW.seq fun K178 hK178 => ?_
  refine SQ [] [none, none, none, none, none] fun _ _ g r => ?_
  try simp [h2, h2_]
  and_intros <;> first | exact g _ (by kernel_rfl) | refine r _ _ _ ?_ | omega | (simp [h2, h2_, maxLen] <;> omega)
  refine WK [(4, AV.ptr 1 0), (5, AV.ptr 2 0), (6, AV.ptr 3 0), (7, Iz (IntKind.wrap .i64 ((v7.length : Int) - 1)))] [(1, .cells [Iz v6, AV.lst false false (List.map api_Arc.av v7)]), (2, .cells [Iz v6, AV.lst true true (List.map api_Arc.av ([] : List api_Arc))]), (3, .cells [Iz v6, AV.lst true true (List.map api_Arc.av ([] : List api_Arc))])] 4 (by simp [h2, h2_]) (by simp [h2, h2_]) ?_
  refine AW.block ?_
  refine AW.ownC 2 1 3 true (cs := [Iz v6, AV.lst true true (List.map api_Arc.av ([] : List api_Arc))]) (by simp [h2, h2_]) (by simp) ?_
  refine AW.ownC 3 1 3 true (cs := [Iz v6, AV.lst true true (List.map api_Arc.av ([] : List api_Arc))]) (by simp [h2, h2_]) (by simp) ?_
  refine RM h0 [(0, 1), (1, 2), (2, 4), (3, 3), (4, 5)] [(4, AV.ptr 0 0), (5, AV.ptr 1 0), (6, AV.ptr 3 0), (7, Iz (IntKind.wrap .i64 ((v7.length : Int) - 1)))] [(0, .cells [Iz v6, AV.lst false false (List.map api_Arc.av v7)]), (1, .cells [Iz v6, AV.slc 2 0 3 (([] : List api_Arc).length) false]), (2, .grow (flatA (List.map api_Arc.av ([] : List api_Arc)))), (3, .cells [Iz v6, AV.slc 4 0 3 (([] : List api_Arc).length) false]), (4, .grow (flatA (List.map api_Arc.av ([] : List api_Arc))))] 5 (by simp [h2, h2_]) (by simp [h2, h2_]) ?_
  refine AW.loopF (α := (Int × (List api_Arc))) (fun n (v9, v10) => law15_FlowTurned.L1 k v6 v7 n v9 v10 = some v1) (fun (v9, v10) => [(4, AV.ptr 0 0), (5, AV.ptr 1 0), (6, AV.ptr 3 0), (7, Iz v9)]) (fun (v9, v10) => [(0, .cells [Iz v6, AV.lst false false (List.map api_Arc.av v7)]), (1, .cells [Iz v6, AV.slc 2 0 3 v10.length false]), (2, .grow (flatA (List.map api_Arc.av v10))), (3, .cells [Iz v6, AV.slc 4 0 3 (([] : List api_Arc).length) false]), (4, .grow (flatA (List.map api_Arc.av ([] : List api_Arc))))]) 5 k ((IntKind.wrap .i64 ((v7.length : Int) - 1), ([] : List api_Arc))) hF (by simp [h2, h2_]) (by simp [h2, h2_]) (by simp) ?_
  rintro (_|n1) ⟨v9, v10⟩ hF K201 hK201
  ·try dsimp only at hF
   rw [law15_FlowTurned.L1] at hF; cases hF
  try dsimp only at hF
  rw [law15_FlowTurned.L1] at hF
  refine AW.seq fun K203 hK203 => ?_
  refine SQ [] [none, none] fun _ _ g r => ?_
  try simp [h2, h2_]
  and_intros <;> first | exact g _ (by kernel_rfl) | refine r _ _ _ ?_ | omega | (simp [h2, h2_, maxLen] <;> omega)
  refine WK [(4, AV.ptr 0 0), (5, AV.ptr 1 0), (6, AV.ptr 3 0), (7, Iz v9), (35, AV.bool (decide (0 ≤ v9)))] [(0, .cells [Iz v6, AV.lst false false (List.map api_Arc.av v7)]), (1, .cells [Iz v6, AV.slc 2 0 3 v10.length false]), (2, .grow (flatA (List.map api_Arc.av v10))), (3, .cells [Iz v6, AV.slc 4 0 3 (([] : List api_Arc).length) false]), (4, .grow (flatA (List.map api_Arc.av ([] : List api_Arc))))] 5 (by simp [h2, h2_]) (by simp [h2, h2_]) ?_
  by_cases h6 : 0 ≤ v9
  ·replace hF := ite_t h6 hF
   have h6_ := h6
   try simp at h6_
   have F1 := And.intro h2 (And.intro h2_ (And.intro h6 h6_))
   refine CT (by simp [F1] <;> omega) ?_
   refine AW.skip ?_
   refine hK203 _ _ _ ?_
   refine AW.seq fun K206 hK206 => ?_
   refine AW.block ?_
   refine RG [] [none, none, none, none, none, none, none, none, none, none, none, none] fun _ _ g r => ?_
   obtain ⟨v11, h7, h8, h9, hF⟩ := idx_elim hF
   have h9_ := get_of h9
   try simp at h9_
   have h8_ := h8
   try simp at h8_
   obtain ⟨h10, hF⟩ := chk_elim hF
   have h10_ := h10
   try simp at h10_
   have F2 := And.intro F1 (And.intro h7 (And.intro h8 (And.intro h9 (And.intro h9_ (And.intro h8_ h10)))))
   try simp [F2]
   and_intros <;> first | exact g _ (by kernel_rfl) | refine r _ _ _ ?_ | omega | (simp [maxLen, F2] <;> omega)
   refine hK206 _ _ _ ?_
   refine WK [(4, AV.ptr 0 0), (5, AV.ptr 1 0), (6, AV.ptr 3 0), (7, Iz v9)] [(0, .cells [Iz v6, AV.lst false false (List.map api_Arc.av v7)]), (1, .cells [Iz v6, AV.slc 5 0 3 ((v10 ++ ([v11, (api_Arc.mk 0 1 0)] : List api_Arc)).length) false]), (3, .cells [Iz v6, AV.slc 4 0 3 (([] : List api_Arc).length) false]), (4, .grow (flatA (List.map api_Arc.av ([] : List api_Arc)))), (5, .grow (flatA (List.map api_Arc.av (v10 ++ ([v11, (api_Arc.mk 0 1 0)] : List api_Arc)))))] 6 (by simp [F2]) (by simp [F2] <;> omega) ?_
   refine RG [] [none, none, none] fun _ _ g r => ?_
   try simp [F2]
   and_intros <;> first | exact g _ (by kernel_rfl) | refine r _ _ _ ?_ | omega | (simp [maxLen, F2] <;> omega)
   refine hK201 _ _ _ ?_
   refine RN h0 [(0, 0), (1, 1), (2, 5), (3, 3), (4, 4)] [(4, AV.ptr 0 0), (5, AV.ptr 1 0), (6, AV.ptr 3 0), (7, Iz (IntKind.wrap .i64 (v9 - 1)))] [(0, .cells [Iz v6, AV.lst false false (List.map api_Arc.av v7)]), (1, .cells [Iz v6, AV.slc 2 0 3 ((v10 ++ ([v11, (api_Arc.mk 0 1 0)] : List api_Arc)).length) false]), (2, .grow (flatA (List.map api_Arc.av (v10 ++ ([v11, (api_Arc.mk 0 1 0)] : List api_Arc))))), (3, .cells [Iz v6, AV.slc 4 0 3 (([] : List api_Arc).length) false]), (4, .grow (flatA (List.map api_Arc.av ([] : List api_Arc))))] 5 (by simp [F2]) (by simp [F2] <;> omega) ?_
   exact NX (k' := n1) ((IntKind.wrap .i64 (v9 - 1), v10 ++ ([v11, (api_Arc.mk 0 1 0)] : List api_Arc))) hF (by simp [F2]) (by simp [F2])
  ·replace hF := ite_f h6 hF
   have h6_ := h6
   try simp at h6_
   have F3 := And.intro h2 (And.intro h2_ (And.intro h6 h6_))
   refine CF (by simp [F3] <;> omega) ?_
   refine AW.exit ?_
   try simp
   refine hK178 _ _ _ ?_
   refine AW.seq fun K239 hK239 => ?_
   refine SQ [] [none] fun _ _ g r => ?_
   try simp [F3]
   and_intros <;> first | exact g _ (by kernel_rfl) | refine r _ _ _ ?_ | omega | (simp [maxLen, F3] <;> omega)
   refine WK [(4, AV.ptr 0 0), (5, AV.ptr 1 0), (6, AV.ptr 3 0), (8, Iz 0)] [(0, .cells [Iz v6, AV.lst false false (List.map api_Arc.av v7)]), (1, .cells [Iz v6, AV.slc 2 0 3 v10.length false]), (2, .grow (flatA (List.map api_Arc.av v10))), (3, .cells [Iz v6, AV.slc 4 0 3 (([] : List api_Arc).length) false]), (4, .grow (flatA (List.map api_Arc.av ([] : List api_Arc))))] 5 (by simp [F3]) (by simp [F3]) ?_
   refine AW.block ?_
   refine AW.loopF (α := (Int × (List api_Arc))) (fun n (v12, v13) => law15_FlowTurned.L2 k v6 v7 v10 n v12 v13 = some v1) (fun (v12, v13) => [(4, AV.ptr 0 0), (5, AV.ptr 1 0), (6, AV.ptr 3 0), (8, Iz v12)]) (fun (v12, v13) => [(0, .cells [Iz v6, AV.lst false false (List.map api_Arc.av v7)]), (1, .cells [Iz v6, AV.slc 2 0 3 v10.length false]), (2, .grow (flatA (List.map api_Arc.av v10))), (3, .cells [Iz v6, AV.slc 4 0 3 v13.length false]), (4, .grow (flatA (List.map api_Arc.av v13)))]) 5 k ((0, ([] : List api_Arc))) hF (by simp [F3]) (by simp [F3]) (by simp) ?_
   rintro (_|n2) ⟨v12, v13⟩ hF K262 hK262
   ·try dsimp only at hF
    rw [law15_FlowTurned.L2] at hF; cases hF
   try dsimp only at hF
   rw [law15_FlowTurned.L2] at hF
   refine AW.seq fun K264 hK264 => ?_
   refine SQ [] [none, none, none, none, none] fun _ _ g r => ?_
   try simp [F3]
   and_intros <;> first | exact g _ (by kernel_rfl) | refine r _ _ _ ?_ | omega | (simp [maxLen, F3] <;> omega)
   refine WK [(4, AV.ptr 0 0), (5, AV.ptr 1 0), (6, AV.ptr 3 0), (8, Iz v12), (53, AV.bool (decide (v12 < (v7.length : Int))))] [(0, .cells [Iz v6, AV.lst false false (List.map api_Arc.av v7)]), (1, .cells [Iz v6, AV.slc 2 0 3 v10.length false]), (2, .grow (flatA (List.map api_Arc.av v10))), (3, .cells [Iz v6, AV.slc 4 0 3 v13.length false]), (4, .grow (flatA (List.map api_Arc.av v13)))] 5 (by simp [F3]) (by simp [F3]) ?_
   by_cases h11 : v12 < (v7.length : Int)
   ·replace hF := ite_t h11 hF
    have h11_ := h11
    try simp at h11_
    have F4 := And.intro F3 (And.intro h11 h11_)
    refine CT (by simp [F4] <;> omega) ?_
    refine AW.skip ?_
    refine hK264 _ _ _ ?_
    refine AW.seq fun K267 hK267 => ?_
    refine AW.block ?_
    refine RG [] [none, none, none, none, none, none, none, none, none, none, none, none, none, none, none, none, none, none, none, none, none, none, none, none, none, none] fun _ _ g r => ?_
    obtain ⟨v14, h12, h13, h14, hF⟩ := idx_elim hF
    have h14_ := get_of h14
    try simp at h14_
    have h13_ := h13
    try simp at h13_
    obtain ⟨h15, hF⟩ := chk_elim hF
    have h15_ := h15
    try simp at h15_
    have F5 := And.intro F4 (And.intro h12 (And.intro h13 (And.intro h14 (And.intro h14_ (And.intro h13_ h15)))))
    try simp [F5]
    and_intros <;> first | exact g _ (by kernel_rfl) | refine r _ _ _ ?_ | omega | (simp [maxLen, F5] <;> omega)
    refine hK267 _ _ _ ?_
    refine WK [(4, AV.ptr 0 0), (5, AV.ptr 1 0), (6, AV.ptr 3 0), (8, Iz v12)] [(0, .cells [Iz v6, AV.lst false false (List.map api_Arc.av v7)]), (1, .cells [Iz v6, AV.slc 2 0 3 v10.length false]), (2, .grow (flatA (List.map api_Arc.av v10))), (3, .cells [Iz v6, AV.slc 5 0 3 ((v13 ++ ([(api_Arc.mk v14.From v14.To (IntKind.wrap .i64 (2 * v14.Cap)))] : List api_Arc)).length) false]), (5, .grow (flatA (List.map api_Arc.av (v13 ++ ([(api_Arc.mk v14.From v14.To (IntKind.wrap .i64 (2 * v14.Cap)))] : List api_Arc)))))] 6 (by simp [F5]) (by simp [F5] <;> omega) ?_
    refine RG [] [none, none, none] fun _ _ g r => ?_
    try simp [F5]
    and_intros <;> first | exact g _ (by kernel_rfl) | refine r _ _ _ ?_ | omega | (simp [maxLen, F5] <;> omega)
    refine hK262 _ _ _ ?_
    refine RN h0 [(0, 0), (1, 1), (2, 2), (3, 3), (4, 5)] [(4, AV.ptr 0 0), (5, AV.ptr 1 0), (6, AV.ptr 3 0), (8, Iz (IntKind.wrap .i64 (v12 + 1)))] [(0, .cells [Iz v6, AV.lst false false (List.map api_Arc.av v7)]), (1, .cells [Iz v6, AV.slc 2 0 3 v10.length false]), (2, .grow (flatA (List.map api_Arc.av v10))), (3, .cells [Iz v6, AV.slc 4 0 3 ((v13 ++ ([(api_Arc.mk v14.From v14.To (IntKind.wrap .i64 (2 * v14.Cap)))] : List api_Arc)).length) false]), (4, .grow (flatA (List.map api_Arc.av (v13 ++ ([(api_Arc.mk v14.From v14.To (IntKind.wrap .i64 (2 * v14.Cap)))] : List api_Arc)))))] 5 (by simp [F5]) (by simp [F5] <;> omega) ?_
    exact NX (k' := n2) ((IntKind.wrap .i64 (v12 + 1), v13 ++ ([(api_Arc.mk v14.From v14.To (IntKind.wrap .i64 (2 * v14.Cap)))] : List api_Arc))) hF (by simp [F5]) (by simp [F5])
   ·replace hF := ite_f h11 hF
    have h11_ := h11
    try simp at h11_
    have F6 := And.intro F3 (And.intro h11 h11_)
    refine CF (by simp [F6] <;> omega) ?_
    refine AW.exit ?_
    try simp
    refine hK239 _ _ _ ?_
    refine WK [(4, AV.ptr 0 0), (5, AV.ptr 1 0), (6, AV.ptr 3 0)] [(0, .cells [Iz v6, AV.lst false false (List.map api_Arc.av v7)]), (1, .cells [Iz v6, AV.slc 2 0 3 v10.length false]), (2, .grow (flatA (List.map api_Arc.av v10))), (3, .cells [Iz v6, AV.slc 4 0 3 v13.length false]), (4, .grow (flatA (List.map api_Arc.av v13)))] 5 (by simp [F6]) (by simp [F6]) ?_
    refine AW.frz 2 (o := .grow (flatA (List.map api_Arc.av v10))) (by simp [F6]) rfl [] [(1, .cells [Iz v6, AV.lst false false (List.map api_Arc.av v10)])] trivial ⟨⟨by simp, AObj.cells [Iz v6, AV.slc 2 0 3 v10.length false], by simp [F6], (.mk (.cons (.same _) (.cons (.l (by simp) (by simp) (by simp) (by simp)) .nil)))⟩, trivial⟩ ?_
    refine AW.frz 4 (o := .grow (flatA (List.map api_Arc.av v13))) (by simp [F6]) rfl [] [(3, .cells [Iz v6, AV.lst false false (List.map api_Arc.av v13)])] trivial ⟨⟨by simp, AObj.cells [Iz v6, AV.slc 4 0 3 v13.length false], by simp [F6], (.mk (.cons (.same _) (.cons (.l (by simp) (by simp) (by simp) (by simp)) .nil)))⟩, trivial⟩ ?_
    refine WK [(4, AV.ptr 0 0), (5, AV.ptr 1 0), (6, AV.ptr 3 0)] [(0, .cells [Iz v6, AV.lst false false (List.map api_Arc.av v7)]), (1, .cells [Iz v6, AV.lst false false (List.map api_Arc.av v10)]), (3, .cells [Iz v6, AV.lst false false (List.map api_Arc.av v13)])] 5 (by simp [F6]) (by simp [F6]) ?_
    refine SQ [] [none, none, none, none, none, none, none] fun _ _ g r => ?_
    try simp [F6]
    and_intros
    try any_goals first | omega | (simp [maxLen, F6] <;> omega)
    obtain ⟨v15, v16, h16, hF⟩ := bnd2_elim hF
    refine AC (w_flow_Max k _ _ _ _ h16) (.cons (.same (by simp [F6])) .nil) ?_
    try simp [F6]
    and_intros <;> first | exact g _ (by kernel_rfl) | refine r _ _ _ ?_ | omega | (simp [maxLen, F6] <;> omega)
    refine WK [(4, AV.ptr 0 0), (5, AV.ptr 1 0), (6, AV.ptr 3 0), (9, AV.slc 5 0 1 v15.length false), (10, Iz v16)] [(0, .cells [Iz v6, AV.lst false false (List.map api_Arc.av v7)]), (1, .cells [Iz v6, AV.lst false false (List.map api_Arc.av v10)]), (3, .cells [Iz v6, AV.lst false false (List.map api_Arc.av v13)]), (5, .grow (List.map (AV.int .i64) v15))] 6 (by simp [F6]) (by simp [F6]) ?_
    refine AW.frz 5 (o := .grow (List.map (AV.int .i64) v15)) (by simp [F6]) rfl [(9, Lz v15)] [] ⟨(.l (by simp) (by simp) (by simp) (by simp)), trivial⟩ trivial ?_
    refine WK [(4, AV.ptr 0 0), (5, AV.ptr 1 0), (6, AV.ptr 3 0), (9, Lz v15), (10, Iz v16)] [(0, .cells [Iz v6, AV.lst false false (List.map api_Arc.av v7)]), (1, .cells [Iz v6, AV.lst false false (List.map api_Arc.av v10)]), (3, .cells [Iz v6, AV.lst false false (List.map api_Arc.av v13)])] 6 (by simp [F6]) (by simp [F6]) ?_
    refine SQ [] [none, none, none, none, none, none, none] fun _ _ g r => ?_
    try simp [F6]
    and_intros
    try any_goals first | omega | (simp [maxLen, F6] <;> omega)
    obtain ⟨v17, v18, h17, hF⟩ := bnd2_elim hF
    refine AC (w_flow_Max k _ _ _ _ h17) (.cons (.same (by simp [F6])) .nil) ?_
    try simp [F6]
    and_intros <;> first | exact g _ (by kernel_rfl) | refine r _ _ _ ?_ | omega | (simp [maxLen, F6] <;> omega)
    refine WK [(4, AV.ptr 0 0), (5, AV.ptr 1 0), (6, AV.ptr 3 0), (9, Lz v15), (10, Iz v16), (11, AV.slc 6 0 1 v17.length false), (12, Iz v18)] [(0, .cells [Iz v6, AV.lst false false (List.map api_Arc.av v7)]), (1, .cells [Iz v6, AV.lst false false (List.map api_Arc.av v10)]), (3, .cells [Iz v6, AV.lst false false (List.map api_Arc.av v13)]), (6, .grow (List.map (AV.int .i64) v17))] 7 (by simp [F6]) (by simp [F6]) ?_
    refine AW.frz 6 (o := .grow (List.map (AV.int .i64) v17)) (by simp [F6]) rfl [(11, Lz v17)] [] ⟨(.l (by simp) (by simp) (by simp) (by simp)), trivial⟩ trivial ?_
    refine WK [(4, AV.ptr 0 0), (5, AV.ptr 1 0), (6, AV.ptr 3 0), (9, Lz v15), (10, Iz v16), (11, Lz v17), (12, Iz v18)] [(0, .cells [Iz v6, AV.lst false false (List.map api_Arc.av v7)]), (1, .cells [Iz v6, AV.lst false false (List.map api_Arc.av v10)]), (3, .cells [Iz v6, AV.lst false false (List.map api_Arc.av v13)])] 7 (by simp [F6]) (by simp [F6]) ?_
    refine SQ [] [none, none, none, none, none, none, none] fun _ _ g r => ?_
    try simp [F6]
    and_intros
    try any_goals first | omega | (simp [maxLen, F6] <;> omega)
    obtain ⟨v19, v20, h18, hF⟩ := bnd2_elim hF
    refine AC (w_flow_Max k _ _ _ _ h18) (.cons (.same (by simp [F6])) .nil) ?_
    try simp [F6]
    and_intros <;> first | exact g _ (by kernel_rfl) | refine r _ _ _ ?_ | omega | (simp [maxLen, F6] <;> omega)
    refine WK [(4, AV.ptr 0 0), (5, AV.ptr 1 0), (6, AV.ptr 3 0), (9, Lz v15), (10, Iz v16), (11, Lz v17), (12, Iz v18), (13, AV.slc 7 0 1 v19.length false), (14, Iz v20)] [(0, .cells [Iz v6, AV.lst false false (List.map api_Arc.av v7)]), (1, .cells [Iz v6, AV.lst false false (List.map api_Arc.av v10)]), (3, .cells [Iz v6, AV.lst false false (List.map api_Arc.av v13)]), (7, .grow (List.map (AV.int .i64) v19))] 8 (by simp [F6]) (by simp [F6]) ?_
    refine AW.frz 7 (o := .grow (List.map (AV.int .i64) v19)) (by simp [F6]) rfl [(13, Lz v19)] [] ⟨(.l (by simp) (by simp) (by simp) (by simp)), trivial⟩ trivial ?_
    refine WK [(4, AV.ptr 0 0), (5, AV.ptr 1 0), (6, AV.ptr 3 0), (9, Lz v15), (10, Iz v16), (11, Lz v17), (12, Iz v18), (13, Lz v19), (14, Iz v20)] [(0, .cells [Iz v6, AV.lst false false (List.map api_Arc.av v7)]), (1, .cells [Iz v6, AV.lst false false (List.map api_Arc.av v10)]), (3, .cells [Iz v6, AV.lst false false (List.map api_Arc.av v13)])] 8 (by simp [F6]) (by simp [F6]) ?_
    refine SQ [] [none, none, none, none] fun _ _ g r => ?_
    try simp [F6]
    and_intros
    try any_goals first | omega | (simp [maxLen, F6] <;> omega)
    obtain ⟨v21, h19, hF⟩ := bnd1_elim hF
    refine AC (w_flow_Value k _ _ _ _ h19) (.cons (.same (by simp [F6])) (.cons (.same (by simp [F6])) .nil)) ?_
    try simp [F6]
    and_intros <;> first | exact g _ (by kernel_rfl) | refine r _ _ _ ?_ | omega | (simp [maxLen, F6] <;> omega)
    refine WK [(5, AV.ptr 1 0), (6, AV.ptr 3 0), (10, Iz v16), (11, Lz v17), (12, Iz v18), (13, Lz v19), (14, Iz v20), (15, Iz v21)] [(1, .cells [Iz v6, AV.lst false false (List.map api_Arc.av v10)]), (3, .cells [Iz v6, AV.lst false false (List.map api_Arc.av v13)])] 8 (by simp [F6]) (by simp [F6]) ?_
    refine SQ [] [none, none, some (100, true), some (100, true), none, none, some (104, true), some (104, true), none, none, some (108, true), some (108, true), none, none, some (112, true), some (112, true), some (112, true), some (112, true), some (112, true), none, none, some (119, true), some (119, true), some (119, true), some (119, true), some (119, true), some (119, true), none, none] fun _ _ g r => ?_
    try simp [F6]
    and_intros
    try any_goals first | omega | (simp [maxLen, F6] <;> omega)
    obtain ⟨v22, h20, hF⟩ := bnd1_elim hF
    refine AC (w_law15_awake k _ h20) .nil ?_
    by_cases h21 : v22 = true
    ·replace hF := ite_t h21 hF
     have h21_ := h21
     try simp at h21_
     by_cases h22 : v16 = 0
     ·replace hF := ite_t h22 hF
      have h22q : v16 = 0 := h22
      have h22_ := eqb_t h22q
      have h22__ := neb_f h22q
      by_cases h23 : v18 = 0
      ·replace hF := ite_t h23 hF
       have h23q : v18 = 0 := h23
       have h23_ := eqb_t h23q
       have h23__ := neb_f h23q
       by_cases h24 : v20 = 0
       ·replace hF := ite_t h24 hF
        have h24q : v20 = 0 := h24
        have h24_ := eqb_t h24q
        have h24__ := neb_f h24q
        have F7 := And.intro F6 (And.intro h21 (And.intro h21_ (And.intro h22_ (And.intro h22__ (And.intro h22q (And.intro h23_ (And.intro h23__ (And.intro h23q (And.intro h24_ (And.intro h24__ h24q))))))))))
        try simp [F7]
        and_intros
        try any_goals first | omega | (simp [maxLen, F7] <;> omega)
        obtain ⟨v23, h25, hF⟩ := bnd1_elim hF
        refine AC (w_flow_Value k _ _ _ _ h25) (.cons (.same (by simp [F7])) (.cons (.same (by simp [F7])) .nil)) ?_
        by_cases h26 : v23 = v21
        ·replace hF := ite_t h26 hF
         have h26q : v23 = v21 := h26
         have h26_ := eqb_t h26q
         have h26__ := neb_f h26q
         have F8 := And.intro F7 (And.intro h26_ h26__)
         try simp [F8]
         and_intros
         try any_goals first | omega | (simp [maxLen, F8] <;> omega)
         obtain ⟨v24, h27, hF⟩ := bnd1_elim hF
         refine AC (w_flow_Value k _ _ _ _ h27) (.cons (.same (by simp [F8])) (.cons (.same (by simp [F8])) .nil)) ?_
         try simp [F8]
         and_intros <;> first | exact g _ (by kernel_rfl) | refine r _ _ _ ?_ | omega | (simp [maxLen, F8] <;> omega)
         refine WK [(2, AV.bool (v24 == (IntKind.wrap .i64 (2 * v21))))] [] 8 (by simp [F8]) (by simp [F8]) ?_
         simp only [Option.some.injEq] at hF
         subst hF
         refine AW.ret (hQ _ _ _ ?_ (matchO_0 ?_)).1
         ·simp [Try.f7, F8]
         ·simp [F8]
        ·replace hF := ite_f h26 hF
         have h26_ := eqb_f h26
         have h26__ := neb_t h26
         have F9 := And.intro F7 (And.intro h26 (And.intro h26_ h26__))
         try simp [F9]
         and_intros <;> first | exact g _ (by kernel_rfl) | refine r _ _ _ ?_ | omega | (simp [maxLen, F9] <;> omega)
         refine WK [(2, AV.bool false)] [] 8 (by simp [F9]) (by simp [F9]) ?_
         simp only [Option.some.injEq] at hF
         subst hF
         refine AW.ret (hQ _ _ _ ?_ (matchO_0 ?_)).1
         ·simp [Try.f7, F9]
         ·simp [F9]
       ·replace hF := ite_f h24 hF
        have h24_ := eqb_f h24
        have h24__ := neb_t h24
        have F10 := And.intro F6 (And.intro h21 (And.intro h21_ (And.intro h22_ (And.intro h22__ (And.intro h22q (And.intro h23_ (And.intro h23__ (And.intro h23q (And.intro h24 (And.intro h24_ h24__))))))))))
        try simp [F10]
        and_intros <;> first | exact g _ (by kernel_rfl) | refine r _ _ _ ?_ | omega | (simp [maxLen, F10] <;> omega)
        refine WK [(2, AV.bool false)] [] 8 (by simp [F10]) (by simp [F10]) ?_
        simp only [Option.some.injEq] at hF
        subst hF
        refine AW.ret (hQ _ _ _ ?_ (matchO_0 ?_)).1
        ·simp [Try.f7, F10]
        ·simp [F10]
      ·replace hF := ite_f h23 hF
       have h23_ := eqb_f h23
       have h23__ := neb_t h23
       have F11 := And.intro F6 (And.intro h21 (And.intro h21_ (And.intro h22_ (And.intro h22__ (And.intro h22q (And.intro h23 (And.intro h23_ h23__)))))))
       try simp [F11]
       and_intros <;> first | exact g _ (by kernel_rfl) | refine r _ _ _ ?_ | omega | (simp [maxLen, F11] <;> omega)
       refine WK [(2, AV.bool false)] [] 8 (by simp [F11]) (by simp [F11]) ?_
       simp only [Option.some.injEq] at hF
       subst hF
       refine AW.ret (hQ _ _ _ ?_ (matchO_0 ?_)).1
       ·simp [Try.f7, F11]
       ·simp [F11]
     ·replace hF := ite_f h22 hF
      have h22_ := eqb_f h22
      have h22__ := neb_t h22
      have F12 := And.intro F6 (And.intro h21 (And.intro h21_ (And.intro h22 (And.intro h22_ h22__))))
      try simp [F12]
      and_intros <;> first | exact g _ (by kernel_rfl) | refine r _ _ _ ?_ | omega | (simp [maxLen, F12] <;> omega)
      refine WK [(2, AV.bool false)] [] 8 (by simp [F12]) (by simp [F12]) ?_
      simp only [Option.some.injEq] at hF
      subst hF
      refine AW.ret (hQ _ _ _ ?_ (matchO_0 ?_)).1
      ·simp [Try.f7, F12]
      ·simp [F12]
    ·replace hF := ite_f h21 hF
     have h21_ := h21
     try simp at h21_
     have F13 := And.intro F6 (And.intro h21 h21_)
     try simp [F13]
     and_intros <;> first | exact g _ (by kernel_rfl) | refine r _ _ _ ?_ | omega | (simp [maxLen, F13] <;> omega)
     refine WK [(2, AV.bool false)] [] 8 (by simp [F13]) (by simp [F13]) ?_
     simp only [Option.some.injEq] at hF
     subst hF
     refine AW.ret (hQ _ _ _ ?_ (matchO_0 ?_)).1
     ·simp [Try.f7, F13]
     ·simp [F13]
end Go.TF
