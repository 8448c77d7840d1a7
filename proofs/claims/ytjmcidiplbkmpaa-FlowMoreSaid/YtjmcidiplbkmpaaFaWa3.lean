/- Walks: the Go text computes the Lean functions (printed by a program of our own). -/
import Derived.Test.YtjmcidiplbkmpaaFaPu
import Derived.Test.YtjmcidiplbkmpaaFaAbsT
import Derived.Test.YtjmcidiplbkmpaaFaWa0
import Derived.Test.YtjmcidiplbkmpaaFaWa1
import Derived.Test.YtjmcidiplbkmpaaFaWa2
set_option linter.unusedVariables false
set_option linter.unusedSimpArgs false
set_option maxRecDepth 100000
set_option maxHeartbeats 4000000
namespace Go.TF
open Go Go.Abs Go.Proofs Go.Proofs.YtjmcidiplbkmpaaFaT
theorem w_made_Roll (k : Nat) (v0 : (List Int)) (v1 : (List Int)) (v2 : Int) (hF : made_Roll k v0 = some (v1, v2)) :
  FCall Try.prog 17 [AV.lst false false (List.map (AV.int .i64) v0)] [] (AV.ptr 0 0) [some (.cells [AV.lst false false (List.map (AV.int .i64) v1), AV.int .i64 v2])] := by
 unfold made_Roll at hF
 refine EN Try.func17 ?_
 intro c0 w0 Q h0 hQ
 refine WK [(0, Lz v0)] [] 0 (by simp) (by simp) ?_
 refine SQ [] [none] fun _ _ g r => ?_
 try simp
 and_intros <;> first | exact g _ (by kernel_rfl) | refine r _ _ _ ?_ | omega | (simp [maxLen] <;> omega)
 refine WK [(0, Lz v0)] [] 0 (by simp) (by simp) ?_
 refine SQ [] [none, none, none, none] fun _ _ g r => ?_
 try simp
 and_intros <;> first | exact g _ (by kernel_rfl) | refine r _ _ _ ?_ | omega | (simp [maxLen] <;> omega)
 refine WK [(2, AV.ptr 0 0)] [(0, .cells [Lz v0, Iz 0])] 1 (by simp) (by simp) ?_
 simp only [Option.some.injEq, Prod.mk.injEq] at hF
 obtain ⟨e0, e1⟩ := hF
 subst e0 e1
 refine AW.ret (hQ _ _ _ ?_ (matchO_0 ?_)).1
 ·simp [Try.f17]
 ·simp
theorem w_made_Mod (k : Nat) (v0 : Int) (v1 : Int) (v2 : Int) (hF : made_Mod k v0 v1 = some v2) :
  FCall Try.prog 20 [AV.int .i64 v0, AV.int .i64 v1] [] (AV.int .i64 v2) [] := by
 unfold made_Mod at hF
 refine EN Try.func20 ?_
 intro c0 w0 Q h0 hQ
 refine WK [(0, Iz v0), (1, Iz v1)] [] 0 (by simp) (by simp) ?_
 refine SQ [] [none] fun _ _ g r => ?_
 try simp
 and_intros <;> first | exact g _ (by kernel_rfl) | refine r _ _ _ ?_ | omega | (simp [maxLen] <;> omega)
 refine WK [(0, Iz v0), (1, Iz v1)] [] 0 (by simp) (by simp) ?_
 refine AW.seq fun K17 hK17 => ?_
 refine SQ [] [none, none] fun _ _ g r => ?_
 try simp
 and_intros <;> first | exact g _ (by kernel_rfl) | refine r _ _ _ ?_ | omega | (simp [maxLen] <;> omega)
 refine WK [(0, Iz v0), (1, Iz v1), (6, AV.bool (decide (v1 < 1)))] [] 0 (by simp) (by simp) ?_
 by_cases h1 : v1 < 1
 ·replace hF := ite_t h1 hF
  have h1_ := h1
  try simp at h1_
  refine CT (by simp [h1, h1_] <;> omega) ?_
  refine SQ [] [none] fun _ _ g r => ?_
  try simp [h1, h1_]
  and_intros <;> first | exact g _ (by kernel_rfl) | refine r _ _ _ ?_ | omega | (simp [h1, h1_, maxLen] <;> omega)
  refine WK [(4, Iz 0)] [] 0 (by simp [h1, h1_]) (by simp [h1, h1_]) ?_
  simp only [Option.some.injEq] at hF
  subst hF
  refine AW.ret (hQ _ _ _ ?_ (matchO_0 ?_)).1
  ·simp [Try.f20, h1, h1_]
  ·simp [h1, h1_]
 ·replace hF := ite_f h1 hF
  have h1_ := h1
  try simp at h1_
  refine CF (by simp [h1, h1_] <;> omega) ?_
  refine AW.skip ?_
  refine hK17 _ _ _ ?_
  refine SQ [] [none, none, none, none] fun _ _ g r => ?_
  obtain ⟨h2, hF⟩ := chk_elim hF
  have h2_ := h2
  try simp at h2_
  have F1 := And.intro h1 (And.intro h1_ (And.intro h2 h2_))
  try simp [F1]
  and_intros <;> first | exact g _ (by kernel_rfl) | refine r _ _ _ ?_ | omega | (simp [maxLen, F1] <;> omega)
  refine WK [(0, Iz (Int.tmod v0 v1)), (1, Iz v1)] [] 0 (by simp [F1]) (by simp [F1]) ?_
  refine AW.midF (α := Int) (fun v3 => made_Mod.J1 k v3 = some v2) (fun v3 => [(0, Iz v3)]) (fun v3 => []) 0 (fun K24 hK24 => ?_) ?_
  ·refine SQ [] [none, none] fun _ _ g r => ?_
   try simp [F1]
   and_intros <;> first | exact g _ (by kernel_rfl) | refine r _ _ _ ?_ | omega | (simp [maxLen, F1] <;> omega)
   refine WK [(0, Iz (Int.tmod v0 v1)), (1, Iz v1), (11, AV.bool (decide (Int.tmod v0 v1 < 0)))] [] 0 (by simp [F1]) (by simp [F1]) ?_
   by_cases h3 : Int.tmod v0 v1 < 0
   ·replace hF := ite_t h3 hF
    have h3_ := h3
    try simp at h3_
    have F2 := And.intro F1 (And.intro h3 h3_)
    refine CT (by simp [F2] <;> omega) ?_
    refine RG [] [none, none, none, none] fun _ _ g r => ?_
    try simp [F2]
    and_intros <;> first | exact g _ (by kernel_rfl) | refine r _ _ _ ?_ | omega | (simp [maxLen, F2] <;> omega)
    refine hK24 _ _ _ ?_
    exact JN (IntKind.wrap .i64 (Int.tmod v0 v1 + v1)) hF (by simp [F2]) (by simp [F2])
   ·replace hF := ite_f h3 hF
    have h3_ := h3
    try simp at h3_
    have F3 := And.intro F1 (And.intro h3 h3_)
    refine CF (by simp [F3] <;> omega) ?_
    refine AW.skip ?_
    refine hK24 _ _ _ ?_
    exact JN (Int.tmod v0 v1) hF (by simp [F3]) (by simp [F3])
  ·rintro v3 hF
   try dsimp only at hF
   unfold made_Mod.J1 at hF
   refine SQ [] [none, none] fun _ _ g r => ?_
   try simp [F1]
   and_intros <;> first | exact g _ (by kernel_rfl) | refine r _ _ _ ?_ | omega | (simp [maxLen, F1] <;> omega)
   refine WK [(4, Iz v3)] [] 0 (by simp [F1]) (by simp [F1]) ?_
   simp only [Option.some.injEq] at hF
   subst hF
   refine AW.ret (hQ _ _ _ ?_ (matchO_0 ?_)).1
   ·simp [Try.f20, F1]
   ·simp [F1]
theorem w_made_Dice_Next (k : Nat) (v0 : (List Int)) (v1 : Int) (v2 : Int) (v3 : Int) (v4 : Int) (hF : made_Dice_Next k v0 v1 v2 = some (v3, v4)) :
  FCall Try.prog 21 [AV.ptr 0 0, AV.int .i64 v2] [.cells [AV.lst false false (List.map (AV.int .i64) v0), AV.int .i64 v1]] (AV.int .i64 v3) [some (.cells [AV.lst false false (List.map (AV.int .i64) v0), AV.int .i64 v4])] := by
 unfold made_Dice_Next at hF
 refine EN Try.func21 ?_
 intro c0 w0 Q h0 hQ
 refine WK [(0, AV.ptr 0 0), (1, Iz v2)] [(0, .cells [Lz v0, Iz v1])] 1 (by simp) (by simp) ?_
 refine SQ [] [none] fun _ _ g r => ?_
 try simp
 and_intros <;> first | exact g _ (by kernel_rfl) | refine r _ _ _ ?_ | omega | (simp [maxLen] <;> omega)
 refine WK [(0, AV.ptr 0 0), (1, Iz v2)] [(0, .cells [Lz v0, Iz v1])] 1 (by simp) (by simp) ?_
 refine AW.seq fun K12 hK12 => ?_
 refine SQ [] [none, none, none, none, none, none, none, none, none, none] fun _ _ g r => ?_
 try simp
 and_intros <;> first | exact g _ (by kernel_rfl) | refine r _ _ _ ?_ | omega | (simp [maxLen] <;> omega)
 refine WK [(0, AV.ptr 0 0), (1, Iz v2), (14, AV.bool (decide ((v0.length : Int) ≤ v1)))] [(0, .cells [Lz v0, Iz v1])] 1 (by simp) (by simp) ?_
 by_cases h1 : (v0.length : Int) ≤ v1
 ·replace hF := ite_t h1 hF
  have h1_ := h1
  try simp at h1_
  refine CT (by simp [h1, h1_] <;> omega) ?_
  refine SQ [] [none] fun _ _ g r => ?_
  try simp [h1, h1_]
  and_intros <;> first | exact g _ (by kernel_rfl) | refine r _ _ _ ?_ | omega | (simp [h1, h1_, maxLen] <;> omega)
  refine WK [(4, Iz 0)] [(0, .cells [Lz v0, Iz v1])] 1 (by simp [h1, h1_]) (by simp [h1, h1_]) ?_
  simp only [Option.some.injEq, Prod.mk.injEq] at hF
  obtain ⟨e0, e1⟩ := hF
  subst e0 e1
  refine AW.ret (hQ _ _ _ ?_ (matchO_0 ?_)).1
  ·simp [Try.f21, h1, h1_]
  ·simp [h1, h1_]
 ·replace hF := ite_f h1 hF
  have h1_ := h1
  try simp at h1_
  refine CF (by simp [h1, h1_] <;> omega) ?_
  refine AW.skip ?_
  refine hK12 _ _ _ ?_
  refine SQ [] [none, none, none, none, none, none, none, none] fun _ _ g r => ?_
  try simp [h1, h1_]
  and_intros <;> first | exact g _ (by kernel_rfl) | refine r _ _ _ ?_ | omega | (simp [h1, h1_, maxLen] <;> omega)
  refine WK [(0, AV.ptr 0 0), (1, Iz v2)] [(0, .cells [Lz v0, Iz (IntKind.wrap .i64 (v1 + 1))])] 1 (by simp [h1, h1_]) (by simp [h1, h1_]) ?_
  refine SQ [] [none, none, none, none, none, none, none, none, none, none, none, none, none, none] fun _ _ g r => ?_
  obtain ⟨v5, h2, h3, h4, hF⟩ := idx_elim hF
  have h4_ := get_of h4
  try simp at h4_
  have h3_ := h3
  try simp at h3_
  have F1 := And.intro h1 (And.intro h1_ (And.intro h2 (And.intro h3 (And.intro h4 (And.intro h4_ h3_)))))
  try simp [F1]
  and_intros
  try any_goals first | omega | (simp [maxLen, F1] <;> omega)
  obtain ⟨v6, h5, hF⟩ := bnd1_elim hF
  refine AC (w_made_Mod k _ _ _ h5) (.cons (.same (by simp [F1])) (.cons (.same (by simp [F1])) .nil)) ?_
  try simp [F1]
  and_intros <;> first | exact g _ (by kernel_rfl) | refine r _ _ _ ?_ | omega | (simp [maxLen, F1] <;> omega)
  refine WK [(4, Iz v6)] [(0, .cells [Lz v0, Iz (IntKind.wrap .i64 (v1 + 1))])] 1 (by simp [F1]) (by simp [F1]) ?_
  simp only [Option.some.injEq, Prod.mk.injEq] at hF
  obtain ⟨e0, e1⟩ := hF
  subst e0 e1
  refine AW.ret (hQ _ _ _ ?_ (matchO_0 ?_)).1
  ·simp [Try.f21, F1]
  ·simp [F1]
theorem w_made_Dice_Of (k : Nat) (v0 : (List Int)) (v1 : Int) (v2 : (List Int)) (v3 : Int) (v4 : Int) (hF : made_Dice_Of k v0 v1 v2 = some (v3, v4)) :
  FCall Try.prog 22 [AV.ptr 0 0, AV.lst false false (List.map (AV.int .i64) v2)] [.cells [AV.lst false false (List.map (AV.int .i64) v0), AV.int .i64 v1]] (AV.int .i64 v3) [some (.cells [AV.lst false false (List.map (AV.int .i64) v0), AV.int .i64 v4])] := by
 unfold made_Dice_Of at hF
 refine EN Try.func22 ?_
 intro c0 w0 Q h0 hQ
 refine WK [(0, AV.ptr 0 0), (1, Lz v2)] [(0, .cells [Lz v0, Iz v1])] 1 (by simp) (by simp) ?_
 refine SQ [] [none] fun _ _ g r => ?_
 try simp
 and_intros <;> first | exact g _ (by kernel_rfl) | refine r _ _ _ ?_ | omega | (simp [maxLen] <;> omega)
 refine WK [(0, AV.ptr 0 0), (1, Lz v2)] [(0, .cells [Lz v0, Iz v1])] 1 (by simp) (by simp) ?_
 refine SQ [] [none, none, none, none, none, none, none, none] fun _ _ g r => ?_
 try simp
 and_intros
 try any_goals first | omega | (simp [maxLen] <;> omega)
 obtain ⟨v5, v6, h1, hF⟩ := bnd2_elim hF
 refine aCall_l (w_made_Dice_Next k _ _ _ _ _ h1) (by simp) [0] [] [0] rfl (.cons (.same (by simp)) (.cons (.same (by simp)) .nil)) (by simp) (by decide) (by simp) (by simp) (.inl rfl) (by simp) (by simp) ?_
 obtain ⟨v7, h2, h3, h4, hF⟩ := idx_elim hF
 have h4_ := get_of h4
 try simp at h4_
 have h3_ := h3
 try simp at h3_
 have F1 := And.intro h2 (And.intro h3 (And.intro h4 (And.intro h4_ h3_)))
 try simp [F1]
 and_intros <;> first | exact g _ (by kernel_rfl) | refine r _ _ _ ?_ | omega | (simp [maxLen, F1] <;> omega)
 refine WK [(4, Iz v7)] [(0, .cells [Lz v0, Iz v6])] 1 (by simp [F1]) (by simp [F1]) ?_
 simp only [Option.some.injEq, Prod.mk.injEq] at hF
 obtain ⟨e0, e1⟩ := hF
 subst e0 e1
 refine AW.ret (hQ _ _ _ ?_ (matchO_0 ?_)).1
 ·simp [Try.f22, F1]
 ·simp [F1]
theorem w_made_Dice_Network (k : Nat) (v0 : (List Int)) (v1 : Int) (v2 : Int) (v3 : (List api_Arc)) (v4 : Int) (hF : made_Dice_Network k v0 v1 = some (v2, v3, v4)) :
  FCall Try.prog 18 [AV.ptr 0 0] [.cells [AV.lst false false (List.map (AV.int .i64) v0), AV.int .i64 v1]] (AV.agg [AV.int .i64 v2, AV.lst false false (List.map api_Arc.av v3)]) [some (.cells [AV.lst false false (List.map (AV.int .i64) v0), AV.int .i64 v4])] := by
 unfold made_Dice_Network at hF
 refine EN Try.func18 ?_
 intro c0 w0 Q h0 hQ
 refine WK [(0, AV.ptr 0 0)] [(0, .cells [Lz v0, Iz v1])] 1 (by simp) (by simp) ?_
 refine SQ [] [none] fun _ _ g r => ?_
 try simp
 and_intros <;> first | exact g _ (by kernel_rfl) | refine r _ _ _ ?_ | omega | (simp [maxLen] <;> omega)
 refine WK [(0, AV.ptr 0 0), (2, AV.ptr 1 0)] [(0, .cells [Lz v0, Iz v1]), (1, .cells [Iz 0, AV.lst true true (List.map api_Arc.av ([] : List api_Arc))])] 2 (by simp) (by simp) ?_
 refine SQ [] [none, none, none, none, none, none] fun _ _ g r => ?_
 try simp
 and_intros
 try any_goals first | omega | (simp [maxLen] <;> omega)
 obtain ⟨v5, v6, h1, hF⟩ := bnd2_elim hF
 refine aCall_l (w_made_Dice_Next k _ _ _ _ _ h1) (by simp) [0] [] [0] rfl (.cons (.same (by simp)) (.cons (.same (by simp)) .nil)) (by simp) (by decide) (by simp) (by simp) (.inl rfl) (by simp) (by simp) ?_
 try simp
 and_intros <;> first | exact g _ (by kernel_rfl) | refine r _ _ _ ?_ | omega | (simp [maxLen] <;> omega)
 refine WK [(0, AV.ptr 0 0), (2, AV.ptr 1 0), (3, AV.ptr 2 0)] [(0, .cells [Lz v0, Iz v6]), (1, .cells [Iz 0, AV.lst true true (List.map api_Arc.av ([] : List api_Arc))]), (2, .cells [Iz (IntKind.wrap .i64 (2 + v5)), AV.lst true true (List.map api_Arc.av ([] : List api_Arc))])] 3 (by simp) (by simp) ?_
 refine AW.seq fun K385 hK385 => ?_
 refine SQ [] [none, none, none] fun _ _ g r => ?_
 try simp
 and_intros
 try any_goals first | omega | (simp [maxLen] <;> omega)
 obtain ⟨v7, v8, h2, hF⟩ := bnd2_elim hF
 refine aCall_l (w_made_Dice_Next k _ _ _ _ _ h2) (by simp) [0] [] [0] rfl (.cons (.same (by simp)) (.cons (.same (by simp)) .nil)) (by simp) (by decide) (by simp) (by simp) (.inl rfl) (by simp) (by simp) ?_
 try simp
 and_intros <;> first | exact g _ (by kernel_rfl) | refine r _ _ _ ?_ | omega | (simp [maxLen] <;> omega)
 refine WK [(0, AV.ptr 0 0), (2, AV.ptr 1 0), (3, AV.ptr 2 0), (4, Iz v7)] [(0, .cells [Lz v0, Iz v8]), (1, .cells [Iz 0, AV.lst true true (List.map api_Arc.av ([] : List api_Arc))]), (2, .cells [Iz (IntKind.wrap .i64 (2 + v5)), AV.lst true true (List.map api_Arc.av ([] : List api_Arc))])] 3 (by simp) (by simp) ?_
 refine AW.block ?_
 refine AW.ownC 1 1 3 true (cs := [Iz 0, AV.lst true true (List.map api_Arc.av ([] : List api_Arc))]) (by simp) (by simp) ?_
 refine AW.ownC 2 1 3 true (cs := [Iz (IntKind.wrap .i64 (2 + v5)), AV.lst true true (List.map api_Arc.av ([] : List api_Arc))]) (by simp) (by simp) ?_
 refine AW.rnm (m := 1) h0 [(0, 0), (1, 1), (2, 3), (3, 2), (4, 4)] [(0, AV.ptr 0 0), (2, AV.ptr 1 0), (3, AV.ptr 3 0), (4, Iz v7)] [(0, .cells [Lz v0, Iz v8]), (1, .cells [Iz 0, AV.slc 2 0 3 (([] : List api_Arc).length) false]), (2, .grow (flatA (List.map api_Arc.av ([] : List api_Arc)))), (3, .cells [Iz (IntKind.wrap .i64 (2 + v5)), AV.slc 4 0 3 (([] : List api_Arc).length) false]), (4, .grow (flatA (List.map api_Arc.av ([] : List api_Arc))))] 5 (by decide) (by decide) (by decide) rfl (by simp) (by simp) ?_
 refine AW.loopF (α := (Int × Int × (List api_Arc))) (fun n (v9, v10, v11) => made_Dice_Network.L1 k v0 v5 n v9 v10 v11 = some (v2, v3, v4)) (fun (v9, v10, v11) => [(0, AV.ptr 0 0), (2, AV.ptr 1 0), (3, AV.ptr 3 0), (4, Iz v9)]) (fun (v9, v10, v11) => [(0, .cells [Lz v0, Iz v10]), (1, .cells [Iz 0, AV.slc 2 0 3 (([] : List api_Arc).length) false]), (2, .grow (flatA (List.map api_Arc.av ([] : List api_Arc)))), (3, .cells [Iz (IntKind.wrap .i64 (2 + v5)), AV.slc 4 0 3 v11.length false]), (4, .grow (flatA (List.map api_Arc.av v11)))]) 5 k ((v7, v8, ([] : List api_Arc))) hF (by simp) (by simp) (by simp) ?_
 rintro (_|n1) ⟨v9, v10, v11⟩ hF K480 hK480
 ·try dsimp only at hF
  rw [made_Dice_Network.L1] at hF; cases hF
 try dsimp only at hF
 rw [made_Dice_Network.L1] at hF
 refine AW.seq fun K482 hK482 => ?_
 refine SQ [] [none, none] fun _ _ g r => ?_
 try simp
 and_intros <;> first | exact g _ (by kernel_rfl) | refine r _ _ _ ?_ | omega | (simp [maxLen] <;> omega)
 refine WK [(0, AV.ptr 0 0), (2, AV.ptr 1 0), (3, AV.ptr 3 0), (4, Iz v9), (13, AV.bool (decide (0 < v9)))] [(0, .cells [Lz v0, Iz v10]), (1, .cells [Iz 0, AV.slc 2 0 3 (([] : List api_Arc).length) false]), (2, .grow (flatA (List.map api_Arc.av ([] : List api_Arc)))), (3, .cells [Iz (IntKind.wrap .i64 (2 + v5)), AV.slc 4 0 3 v11.length false]), (4, .grow (flatA (List.map api_Arc.av v11)))] 5 (by simp) (by simp) ?_
 by_cases h3 : 0 < v9
 ·replace hF := ite_t h3 hF
  have h3_ := h3
  try simp at h3_
  refine CT (by simp [h3, h3_] <;> omega) ?_
  refine AW.skip ?_
  refine hK482 _ _ _ ?_
  refine AW.midF (α := (Int × (List api_Arc))) (fun (v12, v13) => made_Dice_Network.J2 k v9 (fun v9_ v10_ v11_ => made_Dice_Network.L1 k v0 v5 n1 v9_ v10_ v11_) v12 v13 = some (v2, v3, v4)) (fun (v12, v13) => [(0, AV.ptr 0 0), (2, AV.ptr 1 0), (3, AV.ptr 3 0), (4, Iz v9)]) (fun (v12, v13) => [(0, .cells [Lz v0, Iz v12]), (1, .cells [Iz 0, AV.slc 2 0 3 (([] : List api_Arc).length) false]), (2, .grow (flatA (List.map api_Arc.av ([] : List api_Arc)))), (3, .cells [Iz (IntKind.wrap .i64 (2 + v5)), AV.slc 4 0 3 v13.length false]), (4, .grow (flatA (List.map api_Arc.av v13)))]) 5 (fun K498 hK498 => ?_) ?_
  ·refine AW.block ?_
   refine SQ [] [none, none, none, none, none, none, none, none, none, none, none, none, none, none] fun _ _ g r => ?_
   try simp [h3, h3_]
   and_intros
   try any_goals first | omega | (simp [h3, h3_, maxLen] <;> omega)
   obtain ⟨v14, v15, h4, hF⟩ := bnd2_elim hF
   refine aCall_l (w_made_Dice_Next k _ _ _ _ _ h4) (by simp) [0] [] [0] rfl (.cons (.same (by simp [h3, h3_])) (.cons (.same (by simp [h3, h3_])) .nil)) (by simp [h3, h3_]) (by decide) (by simp) (by simp) (.inl rfl) (by simp) (by simp) ?_
   try simp [h3, h3_]
   and_intros
   try any_goals first | omega | (simp [h3, h3_, maxLen] <;> omega)
   obtain ⟨v16, v17, h5, hF⟩ := bnd2_elim hF
   refine aCall_l (w_made_Dice_Next k _ _ _ _ _ h5) (by simp) [0] [] [0] rfl (.cons (.same (by simp [h3, h3_])) (.cons (.same (by simp [h3, h3_])) .nil)) (by simp [h3, h3_]) (by decide) (by simp) (by simp) (.inl rfl) (by simp) (by simp) ?_
   try simp [h3, h3_]
   and_intros
   try any_goals first | omega | (simp [h3, h3_, maxLen] <;> omega)
   obtain ⟨v18, v19, h6, hF⟩ := bnd2_elim hF
   refine aCall_l (w_made_Dice_Of k _ _ _ _ _ h6) (by simp) [0] [] [0] rfl (.cons (.same (by simp [h3, h3_])) (.cons (Coe.fl (by simp [h3, h3_])) .nil)) (by simp [h3, h3_]) (by decide) (by simp) (by simp) (.inl rfl) (by simp) (by simp) ?_
   try simp [h3, h3_]
   and_intros <;> first | exact g _ (by kernel_rfl) | refine r _ _ _ ?_ | omega | (simp [h3, h3_, maxLen] <;> omega)
   refine WK [(0, AV.ptr 0 0), (2, AV.ptr 1 0), (3, AV.ptr 3 0), (4, Iz v9), (5, AV.ptr 5 0)] [(0, .cells [Lz v0, Iz v19]), (1, .cells [Iz 0, AV.slc 2 0 3 (([] : List api_Arc).length) false]), (2, .grow (flatA (List.map api_Arc.av ([] : List api_Arc)))), (3, .cells [Iz (IntKind.wrap .i64 (2 + v5)), AV.slc 4 0 3 v11.length false]), (4, .grow (flatA (List.map api_Arc.av v11))), (5, .cells [Iz v14, Iz v16, Iz v18])] 6 (by simp [h3, h3_]) (by simp [h3, h3_]) ?_
   refine AW.midF (α := Int) (fun v20 => made_Dice_Network.J3 k v9 v11 v16 v18 v19 (fun v9_ v10_ v11_ => made_Dice_Network.L1 k v0 v5 n1 v9_ v10_ v11_) v20 = some (v2, v3, v4)) (fun v20 => [(0, AV.ptr 0 0), (2, AV.ptr 1 0), (3, AV.ptr 3 0), (4, Iz v9), (5, AV.ptr 5 0)]) (fun v20 => [(0, .cells [Lz v0, Iz v19]), (1, .cells [Iz 0, AV.slc 2 0 3 (([] : List api_Arc).length) false]), (2, .grow (flatA (List.map api_Arc.av ([] : List api_Arc)))), (3, .cells [Iz (IntKind.wrap .i64 (2 + v5)), AV.slc 4 0 3 v11.length false]), (4, .grow (flatA (List.map api_Arc.av v11))), (5, .cells [Iz v20, Iz v16, Iz v18])]) 6 (fun K509 hK509 => ?_) ?_
   ·refine SQ [] [none, none, none] fun _ _ g r => ?_
    try simp [h3, h3_]
    and_intros <;> first | exact g _ (by kernel_rfl) | refine r _ _ _ ?_ | omega | (simp [h3, h3_, maxLen] <;> omega)
    refine WK [(0, AV.ptr 0 0), (2, AV.ptr 1 0), (3, AV.ptr 3 0), (4, Iz v9), (5, AV.ptr 5 0), (30, AV.bool (v14 == 1))] [(0, .cells [Lz v0, Iz v19]), (1, .cells [Iz 0, AV.slc 2 0 3 (([] : List api_Arc).length) false]), (2, .grow (flatA (List.map api_Arc.av ([] : List api_Arc)))), (3, .cells [Iz (IntKind.wrap .i64 (2 + v5)), AV.slc 4 0 3 v11.length false]), (4, .grow (flatA (List.map api_Arc.av v11))), (5, .cells [Iz v14, Iz v16, Iz v18])] 6 (by simp [h3, h3_]) (by simp [h3, h3_]) ?_
    by_cases h10 : v14 = 1
    ·replace hF := ite_t h10 hF
     have h10q : v14 = 1 := h10
     have h10_ := eqb_t h10q
     have h10__ := neb_f h10q
     have F1 := And.intro h3 (And.intro h3_ (And.intro h10_ (And.intro h10__ h10q)))
     refine CT (by simp [F1] <;> omega) ?_
     refine RG [] [none, none] fun _ _ g r => ?_
     try simp [F1]
     and_intros <;> first | exact g _ (by kernel_rfl) | refine r _ _ _ ?_ | omega | (simp [maxLen, F1] <;> omega)
     refine hK509 _ _ _ ?_
     exact JN (0) hF (by simp [F1]) (by simp [F1])
    ·replace hF := ite_f h10 hF
     have h10_ := eqb_f h10
     have h10__ := neb_t h10
     have F2 := And.intro h3 (And.intro h3_ (And.intro h10 (And.intro h10_ h10__)))
     refine CF (by simp [F2] <;> omega) ?_
     refine AW.skip ?_
     refine hK509 _ _ _ ?_
     exact JN (v14) hF (by simp [F2]) (by simp [F2])
   ·rintro v20 hF
    try dsimp only at hF
    unfold made_Dice_Network.J3 at hF
    refine AW.midF (α := Int) (fun v21 => made_Dice_Network.J4 k v9 v11 v18 v19 v20 (fun v9_ v10_ v11_ => made_Dice_Network.L1 k v0 v5 n1 v9_ v10_ v11_) v21 = some (v2, v3, v4)) (fun v21 => [(0, AV.ptr 0 0), (2, AV.ptr 1 0), (3, AV.ptr 3 0), (4, Iz v9), (5, AV.ptr 5 0)]) (fun v21 => [(0, .cells [Lz v0, Iz v19]), (1, .cells [Iz 0, AV.slc 2 0 3 (([] : List api_Arc).length) false]), (2, .grow (flatA (List.map api_Arc.av ([] : List api_Arc)))), (3, .cells [Iz (IntKind.wrap .i64 (2 + v5)), AV.slc 4 0 3 v11.length false]), (4, .grow (flatA (List.map api_Arc.av v11))), (5, .cells [Iz v20, Iz v21, Iz v18])]) 6 (fun K506 hK506 => ?_) ?_
    ·refine SQ [] [none, none, none] fun _ _ g r => ?_
     try simp [h3, h3_]
     and_intros <;> first | exact g _ (by kernel_rfl) | refine r _ _ _ ?_ | omega | (simp [h3, h3_, maxLen] <;> omega)
     refine WK [(0, AV.ptr 0 0), (2, AV.ptr 1 0), (3, AV.ptr 3 0), (4, Iz v9), (5, AV.ptr 5 0), (34, AV.bool (v16 == 0))] [(0, .cells [Lz v0, Iz v19]), (1, .cells [Iz 0, AV.slc 2 0 3 (([] : List api_Arc).length) false]), (2, .grow (flatA (List.map api_Arc.av ([] : List api_Arc)))), (3, .cells [Iz (IntKind.wrap .i64 (2 + v5)), AV.slc 4 0 3 v11.length false]), (4, .grow (flatA (List.map api_Arc.av v11))), (5, .cells [Iz v20, Iz v16, Iz v18])] 6 (by simp [h3, h3_]) (by simp [h3, h3_]) ?_
     by_cases h9 : v16 = 0
     ·replace hF := ite_t h9 hF
      have h9q : v16 = 0 := h9
      have h9_ := eqb_t h9q
      have h9__ := neb_f h9q
      have F3 := And.intro h3 (And.intro h3_ (And.intro h9_ (And.intro h9__ h9q)))
      refine CT (by simp [F3] <;> omega) ?_
      refine RG [] [none, none] fun _ _ g r => ?_
      try simp [F3]
      and_intros <;> first | exact g _ (by kernel_rfl) | refine r _ _ _ ?_ | omega | (simp [maxLen, F3] <;> omega)
      refine hK506 _ _ _ ?_
      exact JN (1) hF (by simp [F3]) (by simp [F3])
     ·replace hF := ite_f h9 hF
      have h9_ := eqb_f h9
      have h9__ := neb_t h9
      have F4 := And.intro h3 (And.intro h3_ (And.intro h9 (And.intro h9_ h9__)))
      refine CF (by simp [F4] <;> omega) ?_
      refine AW.skip ?_
      refine hK506 _ _ _ ?_
      exact JN (v16) hF (by simp [F4]) (by simp [F4])
    ·rintro v21 hF
     try dsimp only at hF
     unfold made_Dice_Network.J4 at hF
     refine SQ [] [none, none, none, none, none] fun _ _ g r => ?_
     try simp [h3, h3_]
     and_intros <;> first | exact g _ (by kernel_rfl) | refine r _ _ _ ?_ | omega | (simp [h3, h3_, maxLen] <;> omega)
     refine WK [(0, AV.ptr 0 0), (2, AV.ptr 1 0), (3, AV.ptr 3 0), (4, Iz v9), (5, AV.ptr 5 0), (40, AV.bool (v20 != v21))] [(0, .cells [Lz v0, Iz v19]), (1, .cells [Iz 0, AV.slc 2 0 3 (([] : List api_Arc).length) false]), (2, .grow (flatA (List.map api_Arc.av ([] : List api_Arc)))), (3, .cells [Iz (IntKind.wrap .i64 (2 + v5)), AV.slc 4 0 3 v11.length false]), (4, .grow (flatA (List.map api_Arc.av v11))), (5, .cells [Iz v20, Iz v21, Iz v18])] 6 (by simp [h3, h3_]) (by simp [h3, h3_]) ?_
     by_cases h7 : v20 ≠ v21
     ·replace hF := ite_t h7 hF
      have h7_ := eqb_f h7
      have h7__ := neb_t h7
      refine CT (by simp [h3, h3_, h7, h7_, h7__] <;> omega) ?_
      refine RG [] [none, none, none, none, none, none, none] fun _ _ g r => ?_
      obtain ⟨h8, hF⟩ := chk_elim hF
      have h8_ := h8
      try simp at h8_
      have F5 := And.intro h3 (And.intro h3_ (And.intro h7 (And.intro h7_ (And.intro h7__ h8))))
      try simp [F5]
      and_intros <;> first | exact g _ (by kernel_rfl) | refine r _ _ _ ?_ | omega | (simp [maxLen, F5] <;> omega)
      refine hK498 _ _ _ ?_
      refine Can.weak [(0, AV.ptr 0 0), (2, AV.ptr 1 0), (3, AV.ptr 3 0), (4, Iz v9)] [(0, .cells [Lz v0, Iz v19]), (1, .cells [Iz 0, AV.slc 2 0 3 (([] : List api_Arc).length) false]), (2, .grow (flatA (List.map api_Arc.av ([] : List api_Arc)))), (3, .cells [Iz (IntKind.wrap .i64 (2 + v5)), AV.slc 6 0 3 ((v11 ++ ([(api_Arc.mk v20 v21 v18)] : List api_Arc)).length) false]), (6, .grow (flatA (List.map api_Arc.av (v11 ++ ([(api_Arc.mk v20 v21 v18)] : List api_Arc)))))] 7 (by simp [F5]) (by simp [F5] <;> omega) (by simp) ?_
      refine Can.ren (m := 1) h0 [(0, 0), (1, 1), (2, 2), (3, 3), (4, 6)] [(0, AV.ptr 0 0), (2, AV.ptr 1 0), (3, AV.ptr 3 0), (4, Iz v9)] [(0, .cells [Lz v0, Iz v19]), (1, .cells [Iz 0, AV.slc 2 0 3 (([] : List api_Arc).length) false]), (2, .grow (flatA (List.map api_Arc.av ([] : List api_Arc)))), (3, .cells [Iz (IntKind.wrap .i64 (2 + v5)), AV.slc 4 0 3 ((v11 ++ ([(api_Arc.mk v20 v21 v18)] : List api_Arc)).length) false]), (4, .grow (flatA (List.map api_Arc.av (v11 ++ ([(api_Arc.mk v20 v21 v18)] : List api_Arc)))))] 5 (by decide) (by decide) (by decide) rfl (by simp [F5]) (by simp [F5]) ?_
      exact JN ((v19, v11 ++ ([(api_Arc.mk v20 v21 v18)] : List api_Arc))) hF (by simp [F5]) (by simp [F5])
     ·replace hF := ite_f h7 hF
      have h7q : v20 = v21 := Classical.not_not.1 h7
      have h7_ := eqb_t h7q
      have h7__ := neb_f h7q
      have F6 := And.intro h3 (And.intro h3_ (And.intro h7_ h7__))
      refine CF (by simp [F6] <;> omega) ?_
      refine AW.skip ?_
      refine hK498 _ _ _ ?_
      refine Can.ren (m := 1) h0 [(0, 0), (1, 1), (2, 2), (3, 3), (4, 4)] [(0, AV.ptr 0 0), (2, AV.ptr 1 0), (3, AV.ptr 3 0), (4, Iz v9)] [(0, .cells [Lz v0, Iz v19]), (1, .cells [Iz 0, AV.slc 2 0 3 (([] : List api_Arc).length) false]), (2, .grow (flatA (List.map api_Arc.av ([] : List api_Arc)))), (3, .cells [Iz (IntKind.wrap .i64 (2 + v5)), AV.slc 4 0 3 v11.length false]), (4, .grow (flatA (List.map api_Arc.av v11)))] 5 (by decide) (by decide) (by decide) rfl (by simp [F6]) (by simp [F6]) ?_
      exact JN ((v19, v11)) hF (by simp [F6]) (by simp [F6])
  ·rintro ⟨v12, v13⟩ hF
   try dsimp only at hF
   unfold made_Dice_Network.J2 at hF
   refine RG [] [none, none, none] fun _ _ g r => ?_
   try simp [h3, h3_]
   and_intros <;> first | exact g _ (by kernel_rfl) | refine r _ _ _ ?_ | omega | (simp [h3, h3_, maxLen] <;> omega)
   refine hK480 _ _ _ ?_
   exact NX (k' := n1) ((IntKind.wrap .i64 (v9 - 1), v12, v13)) hF (by simp [h3, h3_]) (by simp [h3, h3_])
 ·replace hF := ite_f h3 hF
  have h3_ := h3
  try simp at h3_
  refine CF (by simp [h3, h3_] <;> omega) ?_
  refine AW.exit ?_
  try simp
  refine hK385 _ _ _ ?_
  refine SQ [] [none, none] fun _ _ g r => ?_
  try simp [h3, h3_]
  and_intros <;> first | exact g _ (by kernel_rfl) | refine r _ _ _ ?_ | omega | (simp [h3, h3_, maxLen] <;> omega)
  refine WK [(2, AV.ptr 1 0)] [(0, .cells [Lz v0, Iz v10]), (1, .cells [Iz (IntKind.wrap .i64 (2 + v5)), AV.slc 4 0 3 v11.length false]), (4, .grow (flatA (List.map api_Arc.av v11)))] 5 (by simp [h3, h3_]) (by simp [h3, h3_]) ?_
  refine WK [(2, AV.ptr 1 0)] [(0, .cells [Lz v0, Iz v10]), (1, .cells [Iz (IntKind.wrap .i64 (2 + v5)), AV.slc 4 0 3 v11.length false]), (4, .grow (flatA (List.map api_Arc.av v11)))] 5 (by simp [h3, h3_]) (by simp [h3, h3_]) ?_
  refine AW.frz 4 (o := .grow (flatA (List.map api_Arc.av v11))) (by simp [h3, h3_]) rfl [] [(1, .cells [Iz (IntKind.wrap .i64 (2 + v5)), AV.lst false false (List.map api_Arc.av v11)])] trivial ⟨⟨by simp, AObj.cells [Iz (IntKind.wrap .i64 (2 + v5)), AV.slc 4 0 3 v11.length false], by simp [h3, h3_], (.mk (.cons (.same _) (.cons (.l (by simp) (by simp) (by simp) (by simp)) .nil)))⟩, trivial⟩ ?_
  simp only [Option.some.injEq, Prod.mk.injEq] at hF
  obtain ⟨e0, e1, e2⟩ := hF
  subst e0 e1 e2
  refine AW.ret (hQ _ _ _ ?_ (matchO_0 ?_)).1
  ·simp [Try.f18, h3, h3_]
  ·simp [h3, h3_]
theorem w_law15_FlowMore (k : Nat) (v0 : (List Int)) (v1 : Int) (v2 : Bool) (hF : law15_FlowMore k v0 v1 = some v2) :
  FCall Try.prog 6 [AV.lst false false (List.map (AV.int .i64) v0), AV.int .u8 v1] [] (AV.bool v2) [] := by
 unfold law15_FlowMore at hF
 refine EN Try.func6 ?_
 intro c0 w0 Q h0 hQ
 refine WK [(0, Lz v0), (1, AV.int .u8 v1)] [] 0 (by simp) (by simp) ?_
 refine SQ [] [none] fun _ _ g r => ?_
 try simp
 and_intros <;> first | exact g _ (by kernel_rfl) | refine r _ _ _ ?_ | omega | (simp [maxLen] <;> omega)
 refine WK [(0, Lz v0), (1, AV.int .u8 v1)] [] 0 (by simp) (by simp) ?_
 refine AW.seq fun K23 hK23 => ?_
 refine SQ [] [none, none, none] fun _ _ g r => ?_
 try simp
 and_intros
 try any_goals first | omega | (simp [maxLen] <;> omega)
 obtain ⟨v3, h1, hF⟩ := bnd1_elim hF
 refine AC (w_made_Light k _ _ h1) (.cons (.same (by simp)) .nil) ?_
 try simp
 and_intros <;> first | exact g _ (by kernel_rfl) | refine r _ _ _ ?_ | omega | (simp [maxLen] <;> omega)
 refine WK [(0, Lz v0), (1, AV.int .u8 v1), (16, AV.bool (!v3))] [] 0 (by simp) (by simp) ?_
 by_cases h2 : (!v3) = true
 ·replace hF := ite_t h2 hF
  have h2_ := h2
  try simp at h2_
  refine CT (by simp [h2, h2_] <;> omega) ?_
  refine SQ [] [none, none] fun _ _ g r => ?_
  try simp [h2, h2_]
  and_intros
  try any_goals first | omega | (simp [h2, h2_, maxLen] <;> omega)
  obtain ⟨v4, h3, hF⟩ := bnd1_elim hF
  refine AC (w_law15_awake k _ h3) .nil ?_
  try simp [h2, h2_]
  and_intros <;> first | exact g _ (by kernel_rfl) | refine r _ _ _ ?_ | omega | (simp [h2, h2_, maxLen] <;> omega)
  refine WK [(4, AV.bool v4)] [] 0 (by simp [h2, h2_]) (by simp [h2, h2_]) ?_
  simp only [Option.some.injEq] at hF
  subst hF
  refine AW.ret (hQ _ _ _ ?_ (matchO_0 ?_)).1
  ·simp [Try.f6, h2, h2_]
  ·simp [h2, h2_]
 ·replace hF := ite_f h2 hF
  have h2_ := h2
  try simp at h2_
  refine CF (by simp [h2, h2_] <;> omega) ?_
  refine AW.skip ?_
  refine hK23 _ _ _ ?_
  refine SQ [] [none, none, none] fun _ _ g r => ?_
  try simp [h2, h2_]
  and_intros
  try any_goals first | omega | (simp [h2, h2_, maxLen] <;> omega)
  obtain ⟨v5, v6, h4, hF⟩ := bnd2_elim hF
  refine AC (w_made_Roll k _ _ _ h4) (.cons (.same (by simp [h2, h2_])) .nil) ?_
  try simp [h2, h2_]
  and_intros <;> first | exact g _ (by kernel_rfl) | refine r _ _ _ ?_ | omega | (simp [h2, h2_, maxLen] <;> omega)
  refine WK [(1, AV.int .u8 v1), (5, AV.ptr 0 0)] [(0, .cells [Lz v5, Iz v6])] 1 (by simp [h2, h2_]) (by simp [h2, h2_]) ?_
  refine SQ [] [none, none, none, none] fun _ _ g r => ?_
  try simp [h2, h2_]
  and_intros
  try any_goals first | omega | (simp [h2, h2_, maxLen] <;> omega)
  obtain ⟨v7, v8, v9, h5, hF⟩ := bnd3_elim hF
  refine aCall_l (w_made_Dice_Network k _ _ _ _ _ h5) (by simp) [0] [] [0] rfl (.cons (.same (by simp [h2, h2_])) .nil) (by simp [h2, h2_]) (by decide) (by simp) (by simp) (.inl rfl) (by simp) (by simp) ?_
  try simp [h2, h2_]
  and_intros <;> first | exact g _ (by kernel_rfl) | refine r _ _ _ ?_ | omega | (simp [h2, h2_, maxLen] <;> omega)
  refine WK [(1, AV.int .u8 v1), (5, AV.ptr 0 0), (6, AV.ptr 1 0)] [(0, .cells [Lz v5, Iz v9]), (1, .cells [Iz v7, AV.lst false false (List.map api_Arc.av v8)])] 2 (by simp [h2, h2_]) (by simp [h2, h2_]) ?_
  refine AW.seq fun K30 hK30 => ?_
  refine SQ [] [none, none, none, none] fun _ _ g r => ?_
  try simp [h2, h2_]
  and_intros <;> first | exact g _ (by kernel_rfl) | refine r _ _ _ ?_ | omega | (simp [h2, h2_, maxLen] <;> omega)
  refine WK [(1, AV.int .u8 v1), (5, AV.ptr 0 0), (6, AV.ptr 1 0), (25, AV.bool ((v8.length : Int) == 0))] [(0, .cells [Lz v5, Iz v9]), (1, .cells [Iz v7, AV.lst false false (List.map api_Arc.av v8)])] 2 (by simp [h2, h2_]) (by simp [h2, h2_]) ?_
  by_cases h6 : (v8.length : Int) = 0
  ·replace hF := ite_t h6 hF
   have h6q : (v8.length : Int) = 0 := h6
   have h6_ := eqb_t h6q
   have h6__ := neb_f h6q
   have F1 := And.intro h2 (And.intro h2_ (And.intro h6_ (And.intro h6__ h6q)))
   refine CT (by simp [F1] <;> omega) ?_
   refine SQ [] [none, none] fun _ _ g r => ?_
   try simp [F1]
   and_intros
   try any_goals first | omega | (simp [maxLen, F1] <;> omega)
   obtain ⟨v10, h7, hF⟩ := bnd1_elim hF
   refine AC (w_law15_awake k _ h7) .nil ?_
   try simp [F1]
   and_intros <;> first | exact g _ (by kernel_rfl) | refine r _ _ _ ?_ | omega | (simp [maxLen, F1] <;> omega)
   refine WK [(4, AV.bool v10)] [] 2 (by simp [F1]) (by simp [F1]) ?_
   simp only [Option.some.injEq] at hF
   subst hF
   refine AW.ret (hQ _ _ _ ?_ (matchO_0 ?_)).1
   ·simp [Try.f6, F1]
   ·simp [F1]
  ·replace hF := ite_f h6 hF
   have h6_ := eqb_f h6
   have h6__ := neb_t h6
   refine CF (by simp [h2, h2_, h6, h6_, h6__] <;> omega) ?_
   refine AW.skip ?_
   refine hK30 _ _ _ ?_
   refine SQ [31] [none, none, none, none, none, none, none, none] fun _ _ g r => ?_
   obtain ⟨h8, hF⟩ := chk_elim hF
   have h8_ := h8
   try simp at h8_
   have F2 := And.intro h2 (And.intro h2_ (And.intro h6 (And.intro h6_ (And.intro h6__ h8))))
   try simp [F2]
   and_intros <;> first | exact g _ (by kernel_rfl) | refine r _ _ _ ?_ | omega | (simp [maxLen, F2] <;> omega)
   refine WK [(1, AV.int .u8 v1), (5, AV.ptr 0 0), (6, AV.ptr 1 0), (7, AV.ptr 3 0)] [(0, .cells [Lz v5, Iz v9]), (1, .cells [Iz v7, AV.lst false false (List.map api_Arc.av v8)]), (2, .grow (flatA (List.map api_Arc.av v8))), (3, .cells [Iz v7, AV.slc 2 0 3 v8.length false])] 4 (by simp [F2]) (by simp [F2]) ?_
   refine SQ [] [none, none, none, none, none, none, none, none, none, none, none, none, none, none, none, none, none] fun _ _ g r => ?_
   try simp [F2]
   and_intros
   try any_goals first | omega | (simp [maxLen, F2] <;> omega)
   obtain ⟨v11, v12, h9, hF⟩ := bnd2_elim hF
   refine aCall_l (w_made_Dice_Next k _ _ _ _ _ h9) (by simp) [0] [] [0] rfl (.cons (.same (by simp [F2])) (.cons (.same (by simp [F2])) .nil)) (by simp [F2]) (by decide) (by simp) (by simp) (.inl rfl) (by simp) (by simp) ?_
   obtain ⟨v13, h10, h11, h12, hF⟩ := idx_elim hF
   have h12_ := get_of h12
   try simp at h12_
   have h11_ := h11
   try simp at h11_
   have h13 := flat_ne (F := api_Arc.av) (es := 3) (fun _ => rfl) (by decide) h11
   have h14 := flat_len (F := api_Arc.av) (es := 3) (fun _ => rfl) v8
   have h15 := flat_dropd (F := api_Arc.av) (es := 3) (fun _ => rfl) h12 2 (by decide)
   try simp only [Nat.add_zero] at h15
   have h16 := flat_dropd (F := api_Arc.av) (es := 3) (fun _ => rfl) h12 2 (by decide)
   try simp only [Nat.add_zero] at h16
   have h17 := flat_set (F := api_Arc.av) (es := 3) (x' := (api_Arc.mk v13.From v13.To (IntKind.wrap .i64 (v13.Cap + IntKind.wrap .i64 (Int.tmod v1 8))))) (d := 2) (zs := [Iz (IntKind.wrap .i64 (v13.Cap + IntKind.wrap .i64 (Int.tmod v1 8)))]) (fun _ => rfl) h12 (by simp) (by simp)
   try simp only [Nat.add_zero] at h17
   have h17_ := h17
   try simp at h17_
   have h18 := set_get (x' := (api_Arc.mk v13.From v13.To (IntKind.wrap .i64 (v13.Cap + IntKind.wrap .i64 (Int.tmod v1 8))))) h12
   have F3 := And.intro F2 (And.intro h10 (And.intro h11 (And.intro h12 (And.intro h12_ (And.intro h11_ (And.intro h13 (And.intro h14 (And.intro h15 (And.intro h16 (And.intro h17 (And.intro h17_ h18)))))))))))
   try simp [F3]
   and_intros <;> first | exact g _ (by kernel_rfl) | refine r _ _ _ ?_ | omega | (simp [maxLen, F3] <;> omega)
   refine WK [(1, AV.int .u8 v1), (6, AV.ptr 1 0), (7, AV.ptr 3 0)] [(1, .cells [Iz v7, AV.lst false false (List.map api_Arc.av v8)]), (2, .grow (flatA (List.map api_Arc.av (v8.set (v11).toNat (api_Arc.mk v13.From v13.To (IntKind.wrap .i64 (v13.Cap + IntKind.wrap .i64 (Int.tmod v1 8)))))))), (3, .cells [Iz v7, AV.slc 2 0 3 ((v8.set (v11).toNat (api_Arc.mk v13.From v13.To (IntKind.wrap .i64 (v13.Cap + IntKind.wrap .i64 (Int.tmod v1 8))))).length) false])] 4 (by simp [F3]) (by simp [F3]) ?_
   refine AW.frz 2 (o := .grow (flatA (List.map api_Arc.av (v8.set (v11).toNat (api_Arc.mk v13.From v13.To (IntKind.wrap .i64 (v13.Cap + IntKind.wrap .i64 (Int.tmod v1 8)))))))) (by simp [F3]) rfl [] [(3, .cells [Iz v7, AV.lst false false (List.map api_Arc.av (v8.set (v11).toNat (api_Arc.mk v13.From v13.To (IntKind.wrap .i64 (v13.Cap + IntKind.wrap .i64 (Int.tmod v1 8))))))])] trivial ⟨⟨by simp, AObj.cells [Iz v7, AV.slc 2 0 3 ((v8.set (v11).toNat (api_Arc.mk v13.From v13.To (IntKind.wrap .i64 (v13.Cap + IntKind.wrap .i64 (Int.tmod v1 8))))).length) false], by simp [F3], (.mk (.cons (.same _) (.cons (.l (by simp [-List.map_set]) (by simp [-List.map_set]) (by simp [-List.map_set]) (by simp [-List.map_set])) .nil)))⟩, trivial⟩ ?_
   refine WK [(1, AV.int .u8 v1), (6, AV.ptr 1 0), (7, AV.ptr 3 0)] [(1, .cells [Iz v7, AV.lst false false (List.map api_Arc.av v8)]), (3, .cells [Iz v7, AV.lst false false (List.map api_Arc.av (v8.set (v11).toNat (api_Arc.mk v13.From v13.To (IntKind.wrap .i64 (v13.Cap + IntKind.wrap .i64 (Int.tmod v1 8))))))])] 4 (by simp [F3]) (by simp [F3]) ?_
   refine SQ [] [none, none, none, none, none, none, none] fun _ _ g r => ?_
   try simp [F3]
   and_intros
   try any_goals first | omega | (simp [maxLen, F3] <;> omega)
   obtain ⟨v14, v15, h19, hF⟩ := bnd2_elim hF
   refine AC (w_flow_Max k _ _ _ _ h19) (.cons (.same (by simp [F3])) .nil) ?_
   try simp [F3]
   and_intros <;> first | exact g _ (by kernel_rfl) | refine r _ _ _ ?_ | omega | (simp [maxLen, F3] <;> omega)
   refine WK [(1, AV.int .u8 v1), (6, AV.ptr 1 0), (7, AV.ptr 3 0), (8, AV.slc 4 0 1 v14.length false), (9, Iz v15)] [(1, .cells [Iz v7, AV.lst false false (List.map api_Arc.av v8)]), (3, .cells [Iz v7, AV.lst false false (List.map api_Arc.av (v8.set (v11).toNat (api_Arc.mk v13.From v13.To (IntKind.wrap .i64 (v13.Cap + IntKind.wrap .i64 (Int.tmod v1 8))))))]), (4, .grow (List.map (AV.int .i64) v14))] 5 (by simp [F3]) (by simp [F3]) ?_
   refine AW.frz 4 (o := .grow (List.map (AV.int .i64) v14)) (by simp [F3]) rfl [(8, Lz v14)] [] ⟨(.l (by simp) (by simp) (by simp) (by simp)), trivial⟩ trivial ?_
   refine WK [(1, AV.int .u8 v1), (6, AV.ptr 1 0), (7, AV.ptr 3 0), (8, Lz v14), (9, Iz v15)] [(1, .cells [Iz v7, AV.lst false false (List.map api_Arc.av v8)]), (3, .cells [Iz v7, AV.lst false false (List.map api_Arc.av (v8.set (v11).toNat (api_Arc.mk v13.From v13.To (IntKind.wrap .i64 (v13.Cap + IntKind.wrap .i64 (Int.tmod v1 8))))))])] 5 (by simp [F3]) (by simp [F3]) ?_
   refine SQ [] [none, none, none, none, none, none, none] fun _ _ g r => ?_
   try simp [F3]
   and_intros
   try any_goals first | omega | (simp [maxLen, F3] <;> omega)
   obtain ⟨v16, v17, h20, hF⟩ := bnd2_elim hF
   refine AC (w_flow_Max k _ _ _ _ h20) (.cons (.same (by simp [F3])) .nil) ?_
   try simp [F3]
   and_intros <;> first | exact g _ (by kernel_rfl) | refine r _ _ _ ?_ | omega | (simp [maxLen, F3] <;> omega)
   refine WK [(1, AV.int .u8 v1), (6, AV.ptr 1 0), (7, AV.ptr 3 0), (8, Lz v14), (9, Iz v15), (10, AV.slc 5 0 1 v16.length false), (11, Iz v17)] [(1, .cells [Iz v7, AV.lst false false (List.map api_Arc.av v8)]), (3, .cells [Iz v7, AV.lst false false (List.map api_Arc.av (v8.set (v11).toNat (api_Arc.mk v13.From v13.To (IntKind.wrap .i64 (v13.Cap + IntKind.wrap .i64 (Int.tmod v1 8))))))]), (5, .grow (List.map (AV.int .i64) v16))] 6 (by simp [F3]) (by simp [F3]) ?_
   refine AW.frz 5 (o := .grow (List.map (AV.int .i64) v16)) (by simp [F3]) rfl [(10, Lz v16)] [] ⟨(.l (by simp) (by simp) (by simp) (by simp)), trivial⟩ trivial ?_
   refine WK [(1, AV.int .u8 v1), (6, AV.ptr 1 0), (7, AV.ptr 3 0), (8, Lz v14), (9, Iz v15), (10, Lz v16), (11, Iz v17)] [(1, .cells [Iz v7, AV.lst false false (List.map api_Arc.av v8)]), (3, .cells [Iz v7, AV.lst false false (List.map api_Arc.av (v8.set (v11).toNat (api_Arc.mk v13.From v13.To (IntKind.wrap .i64 (v13.Cap + IntKind.wrap .i64 (Int.tmod v1 8))))))])] 6 (by simp [F3]) (by simp [F3]) ?_
   refine SQ [] [none, none, none, none, none, none, none, none] fun _ _ g r => ?_
   try simp [F3]
   and_intros
   try any_goals first | omega | (simp [maxLen, F3] <;> omega)
   obtain ⟨v18, h21, hF⟩ := bnd1_elim hF
   refine AC (w_flow_Value k _ _ _ _ h21) (.cons (.same (by simp [F3])) (.cons (.same (by simp [F3])) .nil)) ?_
   try simp [F3]
   and_intros
   try any_goals first | omega | (simp [maxLen, F3] <;> omega)
   obtain ⟨v19, h22, hF⟩ := bnd1_elim hF
   refine AC (w_flow_Value k _ _ _ _ h22) (.cons (.same (by simp [F3])) (.cons (.same (by simp [F3])) .nil)) ?_
   try simp [F3]
   and_intros <;> first | exact g _ (by kernel_rfl) | refine r _ _ _ ?_ | omega | (simp [maxLen, F3] <;> omega)
   refine WK [(1, AV.int .u8 v1), (9, Iz v15), (11, Iz v17), (12, Iz v18), (13, Iz v19)] [] 6 (by simp [F3]) (by simp [F3]) ?_
   refine SQ [] [none, none, some (66, true), some (66, true), none, none, some (70, true), some (70, true), none, none, some (74, true), some (74, true), some (74, true), none, none, some (79, true), some (79, true), some (79, true), some (79, true), some (79, true), some (79, true), some (79, true), none, none] fun _ _ g r => ?_
   try simp [F3]
   and_intros
   try any_goals first | omega | (simp [maxLen, F3] <;> omega)
   obtain ⟨v20, h23, hF⟩ := bnd1_elim hF
   refine AC (w_law15_awake k _ h23) .nil ?_
   by_cases h24 : v20 = true
   ·replace hF := ite_t h24 hF
    have h24_ := h24
    try simp at h24_
    by_cases h25 : v15 = 0
    ·replace hF := ite_t h25 hF
     have h25q : v15 = 0 := h25
     have h25_ := eqb_t h25q
     have h25__ := neb_f h25q
     by_cases h26 : v17 = 0
     ·replace hF := ite_t h26 hF
      have h26q : v17 = 0 := h26
      have h26_ := eqb_t h26q
      have h26__ := neb_f h26q
      by_cases h27 : v18 ≤ v19
      ·replace hF := ite_t h27 hF
       have h27_ := h27
       try simp at h27_
       have F4 := And.intro F3 (And.intro h24 (And.intro h24_ (And.intro h25_ (And.intro h25__ (And.intro h25q (And.intro h26_ (And.intro h26__ (And.intro h26q (And.intro h27 h27_)))))))))
       try simp [F4]
       and_intros <;> first | exact g _ (by kernel_rfl) | refine r _ _ _ ?_ | omega | (simp [maxLen, F4] <;> omega)
       refine WK [(4, AV.bool (decide (v19 ≤ IntKind.wrap .i64 (v18 + IntKind.wrap .i64 (Int.tmod v1 8)))))] [] 6 (by simp [F4]) (by simp [F4]) ?_
       simp only [Option.some.injEq] at hF
       subst hF
       refine AW.ret (hQ _ _ _ ?_ (matchO_0 ?_)).1
       ·simp [Try.f6, F4]
       ·simp [F4]
      ·replace hF := ite_f h27 hF
       have h27_ := h27
       try simp at h27_
       have F5 := And.intro F3 (And.intro h24 (And.intro h24_ (And.intro h25_ (And.intro h25__ (And.intro h25q (And.intro h26_ (And.intro h26__ (And.intro h26q (And.intro h27 h27_)))))))))
       try simp [F5]
       and_intros <;> first | exact g _ (by kernel_rfl) | refine r _ _ _ ?_ | omega | (simp [maxLen, F5] <;> omega)
       refine WK [(4, AV.bool false)] [] 6 (by simp [F5]) (by simp [F5]) ?_
       simp only [Option.some.injEq] at hF
       subst hF
       refine AW.ret (hQ _ _ _ ?_ (matchO_0 ?_)).1
       ·simp [Try.f6, F5]
       ·simp [F5]
     ·replace hF := ite_f h26 hF
      have h26_ := eqb_f h26
      have h26__ := neb_t h26
      have F6 := And.intro F3 (And.intro h24 (And.intro h24_ (And.intro h25_ (And.intro h25__ (And.intro h25q (And.intro h26 (And.intro h26_ h26__)))))))
      try simp [F6]
      and_intros <;> first | exact g _ (by kernel_rfl) | refine r _ _ _ ?_ | omega | (simp [maxLen, F6] <;> omega)
      refine WK [(4, AV.bool false)] [] 6 (by simp [F6]) (by simp [F6]) ?_
      simp only [Option.some.injEq] at hF
      subst hF
      refine AW.ret (hQ _ _ _ ?_ (matchO_0 ?_)).1
      ·simp [Try.f6, F6]
      ·simp [F6]
    ·replace hF := ite_f h25 hF
     have h25_ := eqb_f h25
     have h25__ := neb_t h25
     have F7 := And.intro F3 (And.intro h24 (And.intro h24_ (And.intro h25 (And.intro h25_ h25__))))
     try simp [F7]
     and_intros <;> first | exact g _ (by kernel_rfl) | refine r _ _ _ ?_ | omega | (simp [maxLen, F7] <;> omega)
     refine WK [(4, AV.bool false)] [] 6 (by simp [F7]) (by simp [F7]) ?_
     simp only [Option.some.injEq] at hF
     subst hF
     refine AW.ret (hQ _ _ _ ?_ (matchO_0 ?_)).1
     ·simp [Try.f6, F7]
     ·simp [F7]
   ·replace hF := ite_f h24 hF
    have h24_ := h24
    try simp at h24_
    have F8 := And.intro F3 (And.intro h24 h24_)
    try simp [F8]
    and_intros <;> first | exact g _ (by kernel_rfl) | refine r _ _ _ ?_ | omega | (simp [maxLen, F8] <;> omega)
    refine WK [(4, AV.bool false)] [] 6 (by simp [F8]) (by simp [F8]) ?_
    simp only [Option.some.injEq] at hF
    subst hF
    refine AW.ret (hQ _ _ _ ?_ (matchO_0 ?_)).1
    ·simp [Try.f6, F8]
    ·simp [F8]
end Go.TF
