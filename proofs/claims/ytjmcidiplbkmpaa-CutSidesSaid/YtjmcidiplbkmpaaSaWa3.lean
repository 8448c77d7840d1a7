/- Walks: the Go text computes the Lean functions (printed by a program of our own). -/
import Derived.Test.YtjmcidiplbkmpaaSaPu
import Derived.Test.YtjmcidiplbkmpaaSaAbsT
import Derived.Test.YtjmcidiplbkmpaaSaWa0
import Derived.Test.YtjmcidiplbkmpaaSaWa1
import Derived.Test.YtjmcidiplbkmpaaSaWa2
set_option linter.unusedVariables false
set_option linter.unusedSimpArgs false
set_option maxRecDepth 100000
set_option maxHeartbeats 4000000
namespace Go.TF
open Go Go.Abs Go.Proofs Go.Proofs.YtjmcidiplbkmpaaSaT
theorem w_made_Roll (k : Nat) (v0 : (List Int)) (v1 : (List Int)) (v2 : Int) (hF : made_Roll k v0 = some (v1, v2)) :
  FCall Try.prog 17 [AV.lst false false (List.map (AV.int .i64) v0)] [] (AV.ptr 0 0) [some (.cells [AV.lst false false (List.map (AV.int .i64) v1), AV.int .i64 v2])] := by
 unfold made_Roll at hF
 refine EN Try.func17 ?_
 intro c0 w0 Q h0 hQ
 refine WK [(0, Lz v0)] [] 0 (by simp) (by simp) ?_
 refine SQ [] [none] fun _ _ g r => ?_
 try simp
 and_intros <;> first | exact g _ (by kernel_rfl) | refine r _ _ _ ?_ | omega | (simp [maxLen] <;> omega)
 refine WK [(0, Lz v0)] [] 0 (by simp) (by simp) ?_
 refine SQ [] [none, none, none, none] fun _ _ g r => ?_
 try simp
 and_intros <;> first | exact g _ (by kernel_rfl) | refine r _ _ _ ?_ | omega | (simp [maxLen] <;> omega)
 refine WK [(2, AV.ptr 0 0)] [(0, .cells [Lz v0, Iz 0])] 1 (by simp) (by simp) ?_
 simp only [Option.some.injEq, Prod.mk.injEq] at hF
 obtain ⟨e0, e1⟩ := hF
 subst e0 e1
 refine AW.ret (hQ _ _ _ ?_ (matchO_0 ?_)).1
 ·simp [Try.f17]
 ·simp
theorem w_made_Mod (k : Nat) (v0 : Int) (v1 : Int) (v2 : Int) (hF : made_Mod k v0 v1 = some v2) :
  FCall Try.prog 20 [AV.int .i64 v0, AV.int .i64 v1] [] (AV.int .i64 v2) [] := by
 unfold made_Mod at hF
 refine EN Try.func20 ?_
 intro c0 w0 Q h0 hQ
 refine WK [(0, Iz v0), (1, Iz v1)] [] 0 (by simp) (by simp) ?_
 refine SQ [] [none] fun _ _ g r => ?_
 try simp
 and_intros <;> first | exact g _ (by kernel_rfl) | refine r _ _ _ ?_ | omega | (simp [maxLen] <;> omega)
 refine WK [(0, Iz v0), (1, Iz v1)] [] 0 (by simp) (by simp) ?_
 refine AW.seq fun K17 hK17 => ?_
 refine SQ [] [none, none] fun _ _ g r => ?_
 try simp
 and_intros <;> first | exact g _ (by kernel_rfl) | refine r _ _ _ ?_ | omega | (simp [maxLen] <;> omega)
 refine WK [(0, Iz v0), (1, Iz v1), (6, AV.bool (decide (v1 < 1)))] [] 0 (by simp) (by simp) ?_
 by_cases h1 : v1 < 1
 ·replace hF := ite_t h1 hF
  have h1_ := h1
  try simp at h1_
  refine CT (by simp [h1, h1_] <;> omega) ?_
  refine SQ [] [none] fun _ _ g r => ?_
  try simp [h1, h1_]
  and_intros <;> first | exact g _ (by kernel_rfl) | refine r _ _ _ ?_ | omega | (simp [h1, h1_, maxLen] <;> omega)
  refine WK [(4, Iz 0)] [] 0 (by simp [h1, h1_]) (by simp [h1, h1_]) ?_
  simp only [Option.some.injEq] at hF
  subst hF
  refine AW.ret (hQ _ _ _ ?_ (matchO_0 ?_)).1
  ·simp [Try.f20, h1, h1_]
  ·simp [h1, h1_]
 ·replace hF := ite_f h1 hF
  have h1_ := h1
  try simp at h1_
  refine CF (by simp [h1, h1_] <;> omega) ?_
  refine AW.skip ?_
  refine hK17 _ _ _ ?_
  refine SQ [] [none, none, none, none] fun _ _ g r => ?_
  obtain ⟨h2, hF⟩ := chk_elim hF
  have h2_ := h2
  try simp at h2_
  have F1 := And.intro h1 (And.intro h1_ (And.intro h2 h2_))
  try simp [F1]
  and_intros <;> first | exact g _ (by kernel_rfl) | refine r _ _ _ ?_ | omega | (simp [maxLen, F1] <;> omega)
  refine WK [(0, Iz (Int.tmod v0 v1)), (1, Iz v1)] [] 0 (by simp [F1]) (by simp [F1]) ?_
  refine AW.midF (α := Int) (fun v3 => made_Mod.J1 k v3 = some v2) (fun v3 => [(0, Iz v3)]) (fun v3 => []) 0 (fun K24 hK24 => ?_) ?_
  ·refine SQ [] [none, none] fun _ _ g r => ?_
   try simp [F1]
   and_intros <;> first | exact g _ (by kernel_rfl) | refine r _ _ _ ?_ | omega | (simp [maxLen, F1] <;> omega)
   refine WK [(0, Iz (Int.tmod v0 v1)), (1, Iz v1), (11, AV.bool (decide (Int.tmod v0 v1 < 0)))] [] 0 (by simp [F1]) (by simp [F1]) ?_
   by_cases h3 : Int.tmod v0 v1 < 0
   ·replace hF := ite_t h3 hF
    have h3_ := h3
    try simp at h3_
    have F2 := And.intro F1 (And.intro h3 h3_)
    refine CT (by simp [F2] <;> omega) ?_
    refine RG [] [none, none, none, none] fun _ _ g r => ?_
    try simp [F2]
    and_intros <;> first | exact g _ (by kernel_rfl) | refine r _ _ _ ?_ | omega | (simp [maxLen, F2] <;> omega)
    refine hK24 _ _ _ ?_
    exact JN (IntKind.wrap .i64 (Int.tmod v0 v1 + v1)) hF (by simp [F2]) (by simp [F2])
   ·replace hF := ite_f h3 hF
    have h3_ := h3
    try simp at h3_
    have F3 := And.intro F1 (And.intro h3 h3_)
    refine CF (by simp [F3] <;> omega) ?_
    refine AW.skip ?_
    refine hK24 _ _ _ ?_
    exact JN (Int.tmod v0 v1) hF (by simp [F3]) (by simp [F3])
  ·rintro v3 hF
   try dsimp only at hF
   unfold made_Mod.J1 at hF
   refine SQ [] [none, none] fun _ _ g r => ?_
   try simp [F1]
   and_intros <;> first | exact g _ (by kernel_rfl) | refine r _ _ _ ?_ | omega | (simp [maxLen, F1] <;> omega)
   refine WK [(4, Iz v3)] [] 0 (by simp [F1]) (by simp [F1]) ?_
   simp only [Option.some.injEq] at hF
   subst hF
   refine AW.ret (hQ _ _ _ ?_ (matchO_0 ?_)).1
   ·simp [Try.f20, F1]
   ·simp [F1]
theorem w_made_Dice_Next (k : Nat) (v0 : (List Int)) (v1 : Int) (v2 : Int) (v3 : Int) (v4 : Int) (hF : made_Dice_Next k v0 v1 v2 = some (v3, v4)) :
  FCall Try.prog 21 [AV.ptr 0 0, AV.int .i64 v2] [.cells [AV.lst false false (List.map (AV.int .i64) v0), AV.int .i64 v1]] (AV.int .i64 v3) [some (.cells [AV.lst false false (List.map (AV.int .i64) v0), AV.int .i64 v4])] := by
 unfold made_Dice_Next at hF
 refine EN Try.func21 ?_
 intro c0 w0 Q h0 hQ
 refine WK [(0, AV.ptr 0 0), (1, Iz v2)] [(0, .cells [Lz v0, Iz v1])] 1 (by simp) (by simp) ?_
 refine SQ [] [none] fun _ _ g r => ?_
 try simp
 and_intros <;> first | exact g _ (by kernel_rfl) | refine r _ _ _ ?_ | omega | (simp [maxLen] <;> omega)
 refine WK [(0, AV.ptr 0 0), (1, Iz v2)] [(0, .cells [Lz v0, Iz v1])] 1 (by simp) (by simp) ?_
 refine AW.seq fun K12 hK12 => ?_
 refine SQ [] [none, none, none, none, none, none, none, none, none, none] fun _ _ g r => ?_
 try simp
 and_intros <;> first | exact g _ (by kernel_rfl) | refine r _ _ _ ?_ | omega | (simp [maxLen] <;> omega)
 refine WK [(0, AV.ptr 0 0), (1, Iz v2), (14, AV.bool (decide ((v0.length : Int) ≤ v1)))] [(0, .cells [Lz v0, Iz v1])] 1 (by simp) (by simp) ?_
 by_cases h1 : (v0.length : Int) ≤ v1
 ·replace hF := ite_t h1 hF
  have h1_ := h1
  try simp at h1_
  refine CT (by simp [h1, h1_] <;> omega) ?_
  refine SQ [] [none] fun _ _ g r => ?_
  try simp [h1, h1_]
  and_intros <;> first | exact g _ (by kernel_rfl) | refine r _ _ _ ?_ | omega | (simp [h1, h1_, maxLen] <;> omega)
  refine WK [(4, Iz 0)] [(0, .cells [Lz v0, Iz v1])] 1 (by simp [h1, h1_]) (by simp [h1, h1_]) ?_
  simp only [Option.some.injEq, Prod.mk.injEq] at hF
  obtain ⟨e0, e1⟩ := hF
  subst e0 e1
  refine AW.ret (hQ _ _ _ ?_ (matchO_0 ?_)).1
  ·simp [Try.f21, h1, h1_]
  ·simp [h1, h1_]
 ·replace hF := ite_f h1 hF
  have h1_ := h1
  try simp at h1_
  refine CF (by simp [h1, h1_] <;> omega) ?_
  refine AW.skip ?_
  refine hK12 _ _ _ ?_
  refine SQ [] [none, none, none, none, none, none, none, none] fun _ _ g r => ?_
  try simp [h1, h1_]
  and_intros <;> first | exact g _ (by kernel_rfl) | refine r _ _ _ ?_ | omega | (simp [h1, h1_, maxLen] <;> omega)
  refine WK [(0, AV.ptr 0 0), (1, Iz v2)] [(0, .cells [Lz v0, Iz (IntKind.wrap .i64 (v1 + 1))])] 1 (by simp [h1, h1_]) (by simp [h1, h1_]) ?_
  refine SQ [] [none, none, none, none, none, none, none, none, none, none, none, none, none, none] fun _ _ g r => ?_
  obtain ⟨v5, h2, h3, h4, hF⟩ := idx_elim hF
  have h4_ := get_of h4
  try simp at h4_
  have h3_ := h3
  try simp at h3_
  have F1 := And.intro h1 (And.intro h1_ (And.intro h2 (And.intro h3 (And.intro h4 (And.intro h4_ h3_)))))
  try simp [F1]
  and_intros
  try any_goals first | omega | (simp [maxLen, F1] <;> omega)
  obtain ⟨v6, h5, hF⟩ := bnd1_elim hF
  refine AC (w_made_Mod k _ _ _ h5) (.cons (.same (by simp [F1])) (.cons (.same (by simp [F1])) .nil)) ?_
  try simp [F1]
  and_intros <;> first | exact g _ (by kernel_rfl) | refine r _ _ _ ?_ | omega | (simp [maxLen, F1] <;> omega)
  refine WK [(4, Iz v6)] [(0, .cells [Lz v0, Iz (IntKind.wrap .i64 (v1 + 1))])] 1 (by simp [F1]) (by simp [F1]) ?_
  simp only [Option.some.injEq, Prod.mk.injEq] at hF
  obtain ⟨e0, e1⟩ := hF
  subst e0 e1
  refine AW.ret (hQ _ _ _ ?_ (matchO_0 ?_)).1
  ·simp [Try.f21, F1]
  ·simp [F1]
theorem w_made_Dice_Of (k : Nat) (v0 : (List Int)) (v1 : Int) (v2 : (List Int)) (v3 : Int) (v4 : Int) (hF : made_Dice_Of k v0 v1 v2 = some (v3, v4)) :
  FCall Try.prog 22 [AV.ptr 0 0, AV.lst false false (List.map (AV.int .i64) v2)] [.cells [AV.lst false false (List.map (AV.int .i64) v0), AV.int .i64 v1]] (AV.int .i64 v3) [some (.cells [AV.lst false false (List.map (AV.int .i64) v0), AV.int .i64 v4])] := by
 unfold made_Dice_Of at hF
 refine EN Try.func22 ?_
 intro c0 w0 Q h0 hQ
 refine WK [(0, AV.ptr 0 0), (1, Lz v2)] [(0, .cells [Lz v0, Iz v1])] 1 (by simp) (by simp) ?_
 refine SQ [] [none] fun _ _ g r => ?_
 try simp
 and_intros <;> first | exact g _ (by kernel_rfl) | refine r _ _ _ ?_ | omega | (simp [maxLen] <;> omega)
 refine WK [(0, AV.ptr 0 0), (1, Lz v2)] [(0, .cells [Lz v0, Iz v1])] 1 (by simp) (by simp) ?_
 refine SQ [] [none, none, none, none, none, none, none, none] fun _ _ g r => ?_
 try simp
 and_intros
 try any_goals first | omega | (simp [maxLen] <;> omega)
 obtain ⟨v5, v6, h1, hF⟩ := bnd2_elim hF
 refine aCall_l (w_made_Dice_Next k _ _ _ _ _ h1) (by simp) [0] [] [0] rfl (.cons (.same (by simp)) (.cons (.same (by simp)) .nil)) (by simp) (by decide) (by simp) (by simp) (.inl rfl) (by simp) (by simp) ?_
 obtain ⟨v7, h2, h3, h4, hF⟩ := idx_elim hF
 have h4_ := get_of h4
 try simp at h4_
 have h3_ := h3
 try simp at h3_
 have F1 := And.intro h2 (And.intro h3 (And.intro h4 (And.intro h4_ h3_)))
 try simp [F1]
 and_intros <;> first | exact g _ (by kernel_rfl) | refine r _ _ _ ?_ | omega | (simp [maxLen, F1] <;> omega)
 refine WK [(4, Iz v7)] [(0, .cells [Lz v0, Iz v6])] 1 (by simp [F1]) (by simp [F1]) ?_
 simp only [Option.some.injEq, Prod.mk.injEq] at hF
 obtain ⟨e0, e1⟩ := hF
 subst e0 e1
 refine AW.ret (hQ _ _ _ ?_ (matchO_0 ?_)).1
 ·simp [Try.f22, F1]
 ·simp [F1]
theorem w_made_Dice_Network (k : Nat) (v0 : (List Int)) (v1 : Int) (v2 : Int) (v3 : (List api_Arc)) (v4 : Int) (hF : made_Dice_Network k v0 v1 = some (v2, v3, v4)) :
  FCall Try.prog 18 [AV.ptr 0 0] [.cells [AV.lst false false (List.map (AV.int .i64) v0), AV.int .i64 v1]] (AV.agg [AV.int .i64 v2, AV.slc 1 0 3 v3.length false]) [some (.cells [AV.lst false false (List.map (AV.int .i64) v0), AV.int .i64 v4]), some (.grow (flatA (List.map api_Arc.av v3)))] := by
 unfold made_Dice_Network at hF
 refine EN Try.func18 ?_
 intro c0 w0 Q h0 hQ
 refine WK [(0, AV.ptr 0 0)] [(0, .cells [Lz v0, Iz v1])] 1 (by simp) (by simp) ?_
 refine SQ [] [none] fun _ _ g r => ?_
 try simp
 and_intros <;> first | exact g _ (by kernel_rfl) | refine r _ _ _ ?_ | omega | (simp [maxLen] <;> omega)
 refine WK [(0, AV.ptr 0 0), (2, AV.ptr 1 0)] [(0, .cells [Lz v0, Iz v1]), (1, .cells [Iz 0, AV.lst true true (List.map api_Arc.av ([] : List api_Arc))])] 2 (by simp) (by simp) ?_
 refine SQ [] [none, none, none, none, none, none] fun _ _ g r => ?_
 try simp
 and_intros
 try any_goals first | omega | (simp [maxLen] <;> omega)
 obtain ⟨v5, v6, h1, hF⟩ := bnd2_elim hF
 refine aCall_l (w_made_Dice_Next k _ _ _ _ _ h1) (by simp) [0] [] [0] rfl (.cons (.same (by simp)) (.cons (.same (by simp)) .nil)) (by simp) (by decide) (by simp) (by simp) (.inl rfl) (by simp) (by simp) ?_
 try simp
 and_intros <;> first | exact g _ (by kernel_rfl) | refine r _ _ _ ?_ | omega | (simp [maxLen] <;> omega)
 refine WK [(0, AV.ptr 0 0), (2, AV.ptr 1 0), (3, AV.ptr 2 0)] [(0, .cells [Lz v0, Iz v6]), (1, .cells [Iz 0, AV.lst true true (List.map api_Arc.av ([] : List api_Arc))]), (2, .cells [Iz (IntKind.wrap .i64 (2 + v5)), AV.lst true true (List.map api_Arc.av ([] : List api_Arc))])] 3 (by simp) (by simp) ?_
 refine AW.seq fun K385 hK385 => ?_
 refine SQ [] [none, none, none] fun _ _ g r => ?_
 try simp
 and_intros
 try any_goals first | omega | (simp [maxLen] <;> omega)
 obtain ⟨v7, v8, h2, hF⟩ := bnd2_elim hF
 refine aCall_l (w_made_Dice_Next k _ _ _ _ _ h2) (by simp) [0] [] [0] rfl (.cons (.same (by simp)) (.cons (.same (by simp)) .nil)) (by simp) (by decide) (by simp) (by simp) (.inl rfl) (by simp) (by simp) ?_
 try simp
 and_intros <;> first | exact g _ (by kernel_rfl) | refine r _ _ _ ?_ | omega | (simp [maxLen] <;> omega)
 refine WK [(0, AV.ptr 0 0), (2, AV.ptr 1 0), (3, AV.ptr 2 0), (4, Iz v7)] [(0, .cells [Lz v0, Iz v8]), (1, .cells [Iz 0, AV.lst true true (List.map api_Arc.av ([] : List api_Arc))]), (2, .cells [Iz (IntKind.wrap .i64 (2 + v5)), AV.lst true true (List.map api_Arc.av ([] : List api_Arc))])] 3 (by simp) (by simp) ?_
 refine AW.block ?_
 refine AW.ownC 1 1 3 true (cs := [Iz 0, AV.lst true true (List.map api_Arc.av ([] : List api_Arc))]) (by simp) (by simp) ?_
 refine AW.ownC 2 1 3 true (cs := [Iz (IntKind.wrap .i64 (2 + v5)), AV.lst true true (List.map api_Arc.av ([] : List api_Arc))]) (by simp) (by simp) ?_
 refine AW.rnm (m := 1) h0 [(0, 0), (1, 1), (2, 3), (3, 2), (4, 4)] [(0, AV.ptr 0 0), (2, AV.ptr 1 0), (3, AV.ptr 3 0), (4, Iz v7)] [(0, .cells [Lz v0, Iz v8]), (1, .cells [Iz 0, AV.slc 2 0 3 (([] : List api_Arc).length) false]), (2, .grow (flatA (List.map api_Arc.av ([] : List api_Arc)))), (3, .cells [Iz (IntKind.wrap .i64 (2 + v5)), AV.slc 4 0 3 (([] : List api_Arc).length) false]), (4, .grow (flatA (List.map api_Arc.av ([] : List api_Arc))))] 5 (by decide) (by decide) (by decide) rfl (by simp) (by simp) ?_
 refine AW.loopF (α := (Int × Int × (List api_Arc))) (fun n (v9, v10, v11) => made_Dice_Network.L1 k v0 v5 n v9 v10 v11 = some (v2, v3, v4)) (fun (v9, v10, v11) => [(0, AV.ptr 0 0), (2, AV.ptr 1 0), (3, AV.ptr 3 0), (4, Iz v9)]) (fun (v9, v10, v11) => [(0, .cells [Lz v0, Iz v10]), (1, .cells [Iz 0, AV.slc 2 0 3 (([] : List api_Arc).length) false]), (2, .grow (flatA (List.map api_Arc.av ([] : List api_Arc)))), (3, .cells [Iz (IntKind.wrap .i64 (2 + v5)), AV.slc 4 0 3 v11.length false]), (4, .grow (flatA (List.map api_Arc.av v11)))]) 5 k ((v7, v8, ([] : List api_Arc))) hF (by simp) (by simp) (by simp) ?_
 rintro (_|n1) ⟨v9, v10, v11⟩ hF K480 hK480
 ·try dsimp only at hF
  rw [made_Dice_Network.L1] at hF; cases hF
 try dsimp only at hF
 rw [made_Dice_Network.L1] at hF
 refine AW.seq fun K482 hK482 => ?_
 refine SQ [] [none, none] fun _ _ g r => ?_
 try simp
 and_intros <;> first | exact g _ (by kernel_rfl) | refine r _ _ _ ?_ | omega | (simp [maxLen] <;> omega)
 refine WK [(0, AV.ptr 0 0), (2, AV.ptr 1 0), (3, AV.ptr 3 0), (4, Iz v9), (13, AV.bool (decide (0 < v9)))] [(0, .cells [Lz v0, Iz v10]), (1, .cells [Iz 0, AV.slc 2 0 3 (([] : List api_Arc).length) false]), (2, .grow (flatA (List.map api_Arc.av ([] : List api_Arc)))), (3, .cells [Iz (IntKind.wrap .i64 (2 + v5)), AV.slc 4 0 3 v11.length false]), (4, .grow (flatA (List.map api_Arc.av v11)))] 5 (by simp) (by simp) ?_
 by_cases h3 : 0 < v9
 ·replace hF := ite_t h3 hF
  have h3_ := h3
  try simp at h3_
  refine CT (by simp [h3, h3_] <;> omega) ?_
  refine AW.skip ?_
  refine hK482 _ _ _ ?_
  refine AW.midF (α := (Int × (List api_Arc))) (fun (v12, v13) => made_Dice_Network.J2 k v9 (fun v9_ v10_ v11_ => made_Dice_Network.L1 k v0 v5 n1 v9_ v10_ v11_) v12 v13 = some (v2, v3, v4)) (fun (v12, v13) => [(0, AV.ptr 0 0), (2, AV.ptr 1 0), (3, AV.ptr 3 0), (4, Iz v9)]) (fun (v12, v13) => [(0, .cells [Lz v0, Iz v12]), (1, .cells [Iz 0, AV.slc 2 0 3 (([] : List api_Arc).length) false]), (2, .grow (flatA (List.map api_Arc.av ([] : List api_Arc)))), (3, .cells [Iz (IntKind.wrap .i64 (2 + v5)), AV.slc 4 0 3 v13.length false]), (4, .grow (flatA (List.map api_Arc.av v13)))]) 5 (fun K498 hK498 => ?_) ?_
  ·refine AW.block ?_
   refine SQ [] [none, none, none, none, none, none, none, none, none, none, none, none, none, none] fun _ _ g r => ?_
   try simp [h3, h3_]
   and_intros
   try any_goals first | omega | (simp [h3, h3_, maxLen] <;> omega)
   obtain ⟨v14, v15, h4, hF⟩ := bnd2_elim hF
   refine aCall_l (w_made_Dice_Next k _ _ _ _ _ h4) (by simp) [0] [] [0] rfl (.cons (.same (by simp [h3, h3_])) (.cons (.same (by simp [h3, h3_])) .nil)) (by simp [h3, h3_]) (by decide) (by simp) (by simp) (.inl rfl) (by simp) (by simp) ?_
   try simp [h3, h3_]
   and_intros
   try any_goals first | omega | (simp [h3, h3_, maxLen] <;> omega)
   obtain ⟨v16, v17, h5, hF⟩ := bnd2_elim hF
   refine aCall_l (w_made_Dice_Next k _ _ _ _ _ h5) (by simp) [0] [] [0] rfl (.cons (.same (by simp [h3, h3_])) (.cons (.same (by simp [h3, h3_])) .nil)) (by simp [h3, h3_]) (by decide) (by simp) (by simp) (.inl rfl) (by simp) (by simp) ?_
   try simp [h3, h3_]
   and_intros
   try any_goals first | omega | (simp [h3, h3_, maxLen] <;> omega)
   obtain ⟨v18, v19, h6, hF⟩ := bnd2_elim hF
   refine aCall_l (w_made_Dice_Of k _ _ _ _ _ h6) (by simp) [0] [] [0] rfl (.cons (.same (by simp [h3, h3_])) (.cons (Coe.fl (by simp [h3, h3_])) .nil)) (by simp [h3, h3_]) (by decide) (by simp) (by simp) (.inl rfl) (by simp) (by simp) ?_
   try simp [h3, h3_]
   and_intros <;> first | exact g _ (by kernel_rfl) | refine r _ _ _ ?_ | omega | (simp [h3, h3_, maxLen] <;> omega)
   refine WK [(0, AV.ptr 0 0), (2, AV.ptr 1 0), (3, AV.ptr 3 0), (4, Iz v9), (5, AV.ptr 5 0)] [(0, .cells [Lz v0, Iz v19]), (1, .cells [Iz 0, AV.slc 2 0 3 (([] : List api_Arc).length) false]), (2, .grow (flatA (List.map api_Arc.av ([] : List api_Arc)))), (3, .cells [Iz (IntKind.wrap .i64 (2 + v5)), AV.slc 4 0 3 v11.length false]), (4, .grow (flatA (List.map api_Arc.av v11))), (5, .cells [Iz v14, Iz v16, Iz v18])] 6 (by simp [h3, h3_]) (by simp [h3, h3_]) ?_
   refine AW.midF (α := Int) (fun v20 => made_Dice_Network.J3 k v9 v11 v16 v18 v19 (fun v9_ v10_ v11_ => made_Dice_Network.L1 k v0 v5 n1 v9_ v10_ v11_) v20 = some (v2, v3, v4)) (fun v20 => [(0, AV.ptr 0 0), (2, AV.ptr 1 0), (3, AV.ptr 3 0), (4, Iz v9), (5, AV.ptr 5 0)]) (fun v20 => [(0, .cells [Lz v0, Iz v19]), (1, .cells [Iz 0, AV.slc 2 0 3 (([] : List api_Arc).length) false]), (2, .grow (flatA (List.map api_Arc.av ([] : List api_Arc)))), (3, .cells [Iz (IntKind.wrap .i64 (2 + v5)), AV.slc 4 0 3 v11.length false]), (4, .grow (flatA (List.map api_Arc.av v11))), (5, .cells [Iz v20, Iz v16, Iz v18])]) 6 (fun K509 hK509 => ?_) ?_
   ·refine SQ [] [none, none, none] fun _ _ g r => ?_
    try simp [h3, h3_]
    and_intros <;> first | exact g _ (by kernel_rfl) | refine r _ _ _ ?_ | omega | (simp [h3, h3_, maxLen] <;> omega)
    refine WK [(0, AV.ptr 0 0), (2, AV.ptr 1 0), (3, AV.ptr 3 0), (4, Iz v9), (5, AV.ptr 5 0), (30, AV.bool (v14 == 1))] [(0, .cells [Lz v0, Iz v19]), (1, .cells [Iz 0, AV.slc 2 0 3 (([] : List api_Arc).length) false]), (2, .grow (flatA (List.map api_Arc.av ([] : List api_Arc)))), (3, .cells [Iz (IntKind.wrap .i64 (2 + v5)), AV.slc 4 0 3 v11.length false]), (4, .grow (flatA (List.map api_Arc.av v11))), (5, .cells [Iz v14, Iz v16, Iz v18])] 6 (by simp [h3, h3_]) (by simp [h3, h3_]) ?_
    by_cases h10 : v14 = 1
    ·replace hF := ite_t h10 hF
     have h10q : v14 = 1 := h10
     have h10_ := eqb_t h10q
     have h10__ := neb_f h10q
     have F1 := And.intro h3 (And.intro h3_ (And.intro h10_ (And.intro h10__ h10q)))
     refine CT (by simp [F1] <;> omega) ?_
     refine RG [] [none, none] fun _ _ g r => ?_
     try simp [F1]
     and_intros <;> first | exact g _ (by kernel_rfl) | refine r _ _ _ ?_ | omega | (simp [maxLen, F1] <;> omega)
     refine hK509 _ _ _ ?_
     exact JN (0) hF (by simp [F1]) (by simp [F1])
    ·replace hF := ite_f h10 hF
     have h10_ := eqb_f h10
     have h10__ := neb_t h10
     have F2 := And.intro h3 (And.intro h3_ (And.intro h10 (And.intro h10_ h10__)))
     refine CF (by simp [F2] <;> omega) ?_
     refine AW.skip ?_
     refine hK509 _ _ _ ?_
     exact JN (v14) hF (by simp [F2]) (by simp [F2])
   ·rintro v20 hF
    try dsimp only at hF
    unfold made_Dice_Network.J3 at hF
    refine AW.midF (α := Int) (fun v21 => made_Dice_Network.J4 k v9 v11 v18 v19 v20 (fun v9_ v10_ v11_ => made_Dice_Network.L1 k v0 v5 n1 v9_ v10_ v11_) v21 = some (v2, v3, v4)) (fun v21 => [(0, AV.ptr 0 0), (2, AV.ptr 1 0), (3, AV.ptr 3 0), (4, Iz v9), (5, AV.ptr 5 0)]) (fun v21 => [(0, .cells [Lz v0, Iz v19]), (1, .cells [Iz 0, AV.slc 2 0 3 (([] : List api_Arc).length) false]), (2, .grow (flatA (List.map api_Arc.av ([] : List api_Arc)))), (3, .cells [Iz (IntKind.wrap .i64 (2 + v5)), AV.slc 4 0 3 v11.length false]), (4, .grow (flatA (List.map api_Arc.av v11))), (5, .cells [Iz v20, Iz v21, Iz v18])]) 6 (fun K506 hK506 => ?_) ?_
    ·refine SQ [] [none, none, none] fun _ _ g r => ?_
     try simp [h3, h3_]
     and_intros <;> first | exact g _ (by kernel_rfl) | refine r _ _ _ ?_ | omega | (simp [h3, h3_, maxLen] <;> omega)
     refine WK [(0, AV.ptr 0 0), (2, AV.ptr 1 0), (3, AV.ptr 3 0), (4, Iz v9), (5, AV.ptr 5 0), (34, AV.bool (v16 == 0))] [(0, .cells [Lz v0, Iz v19]), (1, .cells [Iz 0, AV.slc 2 0 3 (([] : List api_Arc).length) false]), (2, .grow (flatA (List.map api_Arc.av ([] : List api_Arc)))), (3, .cells [Iz (IntKind.wrap .i64 (2 + v5)), AV.slc 4 0 3 v11.length false]), (4, .grow (flatA (List.map api_Arc.av v11))), (5, .cells [Iz v20, Iz v16, Iz v18])] 6 (by simp [h3, h3_]) (by simp [h3, h3_]) ?_
     by_cases h9 : v16 = 0
     ·replace hF := ite_t h9 hF
      have h9q : v16 = 0 := h9
      have h9_ := eqb_t h9q
      have h9__ := neb_f h9q
      have F3 := And.intro h3 (And.intro h3_ (And.intro h9_ (And.intro h9__ h9q)))
      refine CT (by simp [F3] <;> omega) ?_
      refine RG [] [none, none] fun _ _ g r => ?_
      try simp [F3]
      and_intros <;> first | exact g _ (by kernel_rfl) | refine r _ _ _ ?_ | omega | (simp [maxLen, F3] <;> omega)
      refine hK506 _ _ _ ?_
      exact JN (1) hF (by simp [F3]) (by simp [F3])
     ·replace hF := ite_f h9 hF
      have h9_ := eqb_f h9
      have h9__ := neb_t h9
      have F4 := And.intro h3 (And.intro h3_ (And.intro h9 (And.intro h9_ h9__)))
      refine CF (by simp [F4] <;> omega) ?_
      refine AW.skip ?_
      refine hK506 _ _ _ ?_
      exact JN (v16) hF (by simp [F4]) (by simp [F4])
    ·rintro v21 hF
     try dsimp only at hF
     unfold made_Dice_Network.J4 at hF
     refine SQ [] [none, none, none, none, none] fun _ _ g r => ?_
     try simp [h3, h3_]
     and_intros <;> first | exact g _ (by kernel_rfl) | refine r _ _ _ ?_ | omega | (simp [h3, h3_, maxLen] <;> omega)
     refine WK [(0, AV.ptr 0 0), (2, AV.ptr 1 0), (3, AV.ptr 3 0), (4, Iz v9), (5, AV.ptr 5 0), (40, AV.bool (v20 != v21))] [(0, .cells [Lz v0, Iz v19]), (1, .cells [Iz 0, AV.slc 2 0 3 (([] : List api_Arc).length) false]), (2, .grow (flatA (List.map api_Arc.av ([] : List api_Arc)))), (3, .cells [Iz (IntKind.wrap .i64 (2 + v5)), AV.slc 4 0 3 v11.length false]), (4, .grow (flatA (List.map api_Arc.av v11))), (5, .cells [Iz v20, Iz v21, Iz v18])] 6 (by simp [h3, h3_]) (by simp [h3, h3_]) ?_
     by_cases h7 : v20 ≠ v21
     ·replace hF := ite_t h7 hF
      have h7_ := eqb_f h7
      have h7__ := neb_t h7
      refine CT (by simp [h3, h3_, h7, h7_, h7__] <;> omega) ?_
      refine RG [] [none, none, none, none, none, none, none] fun _ _ g r => ?_
      obtain ⟨h8, hF⟩ := chk_elim hF
      have h8_ := h8
      try simp at h8_
      have F5 := And.intro h3 (And.intro h3_ (And.intro h7 (And.intro h7_ (And.intro h7__ h8))))
      try simp [F5]
      and_intros <;> first | exact g _ (by kernel_rfl) | refine r _ _ _ ?_ | omega | (simp [maxLen, F5] <;> omega)
      refine hK498 _ _ _ ?_
      refine Can.weak [(0, AV.ptr 0 0), (2, AV.ptr 1 0), (3, AV.ptr 3 0), (4, Iz v9)] [(0, .cells [Lz v0, Iz v19]), (1, .cells [Iz 0, AV.slc 2 0 3 (([] : List api_Arc).length) false]), (2, .grow (flatA (List.map api_Arc.av ([] : List api_Arc)))), (3, .cells [Iz (IntKind.wrap .i64 (2 + v5)), AV.slc 6 0 3 ((v11 ++ ([(api_Arc.mk v20 v21 v18)] : List api_Arc)).length) false]), (6, .grow (flatA (List.map api_Arc.av (v11 ++ ([(api_Arc.mk v20 v21 v18)] : List api_Arc)))))] 7 (by simp [F5]) (by simp [F5] <;> omega) (by simp) ?_
      refine Can.ren (m := 1) h0 [(0, 0), (1, 1), (2, 2), (3, 3), (4, 6)] [(0, AV.ptr 0 0), (2, AV.ptr 1 0), (3, AV.ptr 3 0), (4, Iz v9)] [(0, .cells [Lz v0, Iz v19]), (1, .cells [Iz 0, AV.slc 2 0 3 (([] : List api_Arc).length) false]), (2, .grow (flatA (List.map api_Arc.av ([] : List api_Arc)))), (3, .cells [Iz (IntKind.wrap .i64 (2 + v5)), AV.slc 4 0 3 ((v11 ++ ([(api_Arc.mk v20 v21 v18)] : List api_Arc)).length) false]), (4, .grow (flatA (List.map api_Arc.av (v11 ++ ([(api_Arc.mk v20 v21 v18)] : List api_Arc)))))] 5 (by decide) (by decide) (by decide) rfl (by simp [F5]) (by simp [F5]) ?_
      exact JN ((v19, v11 ++ ([(api_Arc.mk v20 v21 v18)] : List api_Arc))) hF (by simp [F5]) (by simp [F5])
     ·replace hF := ite_f h7 hF
      have h7q : v20 = v21 := Classical.not_not.1 h7
      have h7_ := eqb_t h7q
      have h7__ := neb_f h7q
      have F6 := And.intro h3 (And.intro h3_ (And.intro h7_ h7__))
      refine CF (by simp [F6] <;> omega) ?_
      refine AW.skip ?_
      refine hK498 _ _ _ ?_
      refine Can.ren (m := 1) h0 [(0, 0), (1, 1), (2, 2), (3, 3), (4, 4)] [(0, AV.ptr 0 0), (2, AV.ptr 1 0), (3, AV.ptr 3 0), (4, Iz v9)] [(0, .cells [Lz v0, Iz v19]), (1, .cells [Iz 0, AV.slc 2 0 3 (([] : List api_Arc).length) false]), (2, .grow (flatA (List.map api_Arc.av ([] : List api_Arc)))), (3, .cells [Iz (IntKind.wrap .i64 (2 + v5)), AV.slc 4 0 3 v11.length false]), (4, .grow (flatA (List.map api_Arc.av v11)))] 5 (by decide) (by decide) (by decide) rfl (by simp [F6]) (by simp [F6]) ?_
      exact JN ((v19, v11)) hF (by simp [F6]) (by simp [F6])
  ·rintro ⟨v12, v13⟩ hF
   try dsimp only at hF
   unfold made_Dice_Network.J2 at hF
   refine RG [] [none, none, none] fun _ _ g r => ?_
   try simp [h3, h3_]
   and_intros <;> first | exact g _ (by kernel_rfl) | refine r _ _ _ ?_ | omega | (simp [h3, h3_, maxLen] <;> omega)
   refine hK480 _ _ _ ?_
   exact NX (k' := n1) ((IntKind.wrap .i64 (v9 - 1), v12, v13)) hF (by simp [h3, h3_]) (by simp [h3, h3_])
 ·replace hF := ite_f h3 hF
  have h3_ := h3
  try simp at h3_
  refine CF (by simp [h3, h3_] <;> omega) ?_
  refine AW.exit ?_
  try simp
  refine hK385 _ _ _ ?_
  refine SQ [] [none, none] fun _ _ g r => ?_
  try simp [h3, h3_]
  and_intros <;> first | exact g _ (by kernel_rfl) | refine r _ _ _ ?_ | omega | (simp [h3, h3_, maxLen] <;> omega)
  refine WK [(2, AV.ptr 1 0)] [(0, .cells [Lz v0, Iz v10]), (1, .cells [Iz (IntKind.wrap .i64 (2 + v5)), AV.slc 4 0 3 v11.length false]), (4, .grow (flatA (List.map api_Arc.av v11)))] 5 (by simp [h3, h3_]) (by simp [h3, h3_]) ?_
  refine AW.rnm (m := 1) h0 [(0, 0), (1, 4), (2, 1)] [(2, AV.ptr 2 0)] [(0, .cells [Lz v0, Iz v10]), (1, .grow (flatA (List.map api_Arc.av v11))), (2, .cells [Iz (IntKind.wrap .i64 (2 + v5)), AV.slc 1 0 3 v11.length false])] 3 (by decide) (by decide) (by decide) rfl (by simp [h3, h3_]) (by simp [h3, h3_]) ?_
  simp only [Option.some.injEq, Prod.mk.injEq] at hF
  obtain ⟨e0, e1, e2⟩ := hF
  subst e0 e1 e2
  refine AW.ret (hQ _ _ _ ?_ (matchO_0 ?_)).1
  ·simp [Try.f18, h3, h3_]
  ·simp [h3, h3_]
theorem w_made_Dice_One (k : Nat) (v0 : (List Int)) (v1 : Int) (v2 : Int) (v3 : Bool) (v4 : Int) (hF : made_Dice_One k v0 v1 v2 = some (v3, v4)) :
  FCall Try.prog 29 [AV.ptr 0 0, AV.int .i64 v2] [.cells [AV.lst false false (List.map (AV.int .i64) v0), AV.int .i64 v1]] (AV.bool v3) [some (.cells [AV.lst false false (List.map (AV.int .i64) v0), AV.int .i64 v4])] := by
 unfold made_Dice_One at hF
 refine EN Try.func29 ?_
 intro c0 w0 Q h0 hQ
 refine WK [(0, AV.ptr 0 0), (1, Iz v2)] [(0, .cells [Lz v0, Iz v1])] 1 (by simp) (by simp) ?_
 refine SQ [] [none] fun _ _ g r => ?_
 try simp
 and_intros <;> first | exact g _ (by kernel_rfl) | refine r _ _ _ ?_ | omega | (simp [maxLen] <;> omega)
 refine WK [(0, AV.ptr 0 0), (1, Iz v2)] [(0, .cells [Lz v0, Iz v1])] 1 (by simp) (by simp) ?_
 refine SQ [] [none, none, none, none, none, none, none] fun _ _ g r => ?_
 try simp
 and_intros
 try any_goals first | omega | (simp [maxLen] <;> omega)
 obtain ⟨v5, v6, h1, hF⟩ := bnd2_elim hF
 refine aCall_l (w_made_Dice_Next k _ _ _ _ _ h1) (by simp) [0] [] [0] rfl (.cons (.same (by simp)) (.cons (.same (by simp)) .nil)) (by simp) (by decide) (by simp) (by simp) (.inl rfl) (by simp) (by simp) ?_
 try simp
 and_intros <;> first | exact g _ (by kernel_rfl) | refine r _ _ _ ?_ | omega | (simp [maxLen] <;> omega)
 refine WK [(4, AV.bool (v5 == (IntKind.wrap .i64 (v2 - 1))))] [(0, .cells [Lz v0, Iz v6])] 1 (by simp) (by simp) ?_
 simp only [Option.some.injEq, Prod.mk.injEq] at hF
 obtain ⟨e0, e1⟩ := hF
 subst e0 e1
 refine AW.ret (hQ _ _ _ ?_ (matchO_0 ?_)).1
 ·simp [Try.f29]
 ·simp
theorem w_law16_CutSides (k : Nat) (v0 : (List Int)) (v1 : Bool) (hF : law16_CutSides k v0 = some v1) :
  FCall Try.prog 11 [AV.lst false false (List.map (AV.int .i64) v0)] [] (AV.bool v1) [] := by
 unfold law16_CutSides at hF
 refine EN Try.func11 ?_
 intro c0 w0 Q h0 hQ
 refine WK [(0, Lz v0)] [] 0 (by simp) (by simp) ?_
 refine SQ [] [none] fun _ _ g r => ?_
 try simp
 and_intros <;> first | exact g _ (by kernel_rfl) | refine r _ _ _ ?_ | omega | (simp [maxLen] <;> omega)
 refine WK [(0, Lz v0)] [] 0 (by simp) (by simp) ?_
 refine AW.seq fun K379 hK379 => ?_
 refine SQ [] [none, none, none] fun _ _ g r => ?_
 try simp
 and_intros
 try any_goals first | omega | (simp [maxLen] <;> omega)
 obtain ⟨v2, h1, hF⟩ := bnd1_elim hF
 refine AC (w_made_Light k _ _ h1) (.cons (.same (by simp)) .nil) ?_
 try simp
 and_intros <;> first | exact g _ (by kernel_rfl) | refine r _ _ _ ?_ | omega | (simp [maxLen] <;> omega)
 refine WK [(0, Lz v0), (14, AV.bool (!v2))] [] 0 (by simp) (by simp) ?_
 by_cases h2 : (!v2) = true
 ·replace hF := ite_t h2 hF
  have h2_ := h2
  try simp at h2_
  refine CT (by simp [h2, h2_] <;> omega) ?_
  refine SQ [] [none, none] fun _ _ g r => ?_
  try simp [h2, h2_]
  and_intros
  try any_goals first | omega | (simp [h2, h2_, maxLen] <;> omega)
  obtain ⟨v3, h3, hF⟩ := bnd1_elim hF
  refine AC (w_law16_awake k _ h3) .nil ?_
  try simp [h2, h2_]
  and_intros <;> first | exact g _ (by kernel_rfl) | refine r _ _ _ ?_ | omega | (simp [h2, h2_, maxLen] <;> omega)
  refine WK [(2, AV.bool v3)] [] 0 (by simp [h2, h2_]) (by simp [h2, h2_]) ?_
  simp only [Option.some.injEq] at hF
  subst hF
  refine AW.ret (hQ _ _ _ ?_ (matchO_0 ?_)).1
  ·simp [Try.f11, h2, h2_]
  ·simp [h2, h2_]
 ·replace hF := ite_f h2 hF
  have h2_ := h2
  try simp at h2_
  refine CF (by simp [h2, h2_] <;> omega) ?_
  refine AW.skip ?_
  refine hK379 _ _ _ ?_
  refine SQ [] [none, none, none] fun _ _ g r => ?_
  try simp [h2, h2_]
  and_intros
  try any_goals first | omega | (simp [h2, h2_, maxLen] <;> omega)
  obtain ⟨v4, v5, h4, hF⟩ := bnd2_elim hF
  refine AC (w_made_Roll k _ _ _ h4) (.cons (.same (by simp [h2, h2_])) .nil) ?_
  try simp [h2, h2_]
  and_intros <;> first | exact g _ (by kernel_rfl) | refine r _ _ _ ?_ | omega | (simp [h2, h2_, maxLen] <;> omega)
  refine WK [(3, AV.ptr 0 0)] [(0, .cells [Lz v4, Iz v5])] 1 (by simp [h2, h2_]) (by simp [h2, h2_]) ?_
  refine SQ [] [none, none, none, none] fun _ _ g r => ?_
  try simp [h2, h2_]
  and_intros
  try any_goals first | omega | (simp [h2, h2_, maxLen] <;> omega)
  obtain ⟨v6, v7, v8, h5, hF⟩ := bnd3_elim hF
  refine aCall_l (w_made_Dice_Network k _ _ _ _ _ h5) (by simp) [0] [] [0] rfl (.cons (.same (by simp [h2, h2_])) .nil) (by simp [h2, h2_]) (by decide) (by simp) (by simp) (.inl rfl) (by simp) (by simp) ?_
  try simp [h2, h2_]
  and_intros <;> first | exact g _ (by kernel_rfl) | refine r _ _ _ ?_ | omega | (simp [h2, h2_, maxLen] <;> omega)
  refine WK [(3, AV.ptr 0 0), (4, AV.ptr 2 0)] [(0, .cells [Lz v4, Iz v8]), (1, .grow (flatA (List.map api_Arc.av v7))), (2, .cells [Iz v6, AV.slc 1 0 3 v7.length false])] 3 (by simp [h2, h2_]) (by simp [h2, h2_]) ?_
  refine AW.frz 1 (o := .grow (flatA (List.map api_Arc.av v7))) (by simp [h2, h2_]) rfl [] [(2, .cells [Iz v6, AV.lst false false (List.map api_Arc.av v7)])] trivial ⟨⟨by simp, AObj.cells [Iz v6, AV.slc 1 0 3 v7.length false], by simp [h2, h2_], (.mk (.cons (.same _) (.cons (.l (by simp) (by simp) (by simp) (by simp)) .nil)))⟩, trivial⟩ ?_
  refine WK [(3, AV.ptr 0 0), (4, AV.ptr 2 0)] [(0, .cells [Lz v4, Iz v8]), (2, .cells [Iz v6, AV.lst false false (List.map api_Arc.av v7)])] 3 (by simp [h2, h2_]) (by simp [h2, h2_]) ?_
  refine SQ [20, 21, 22, 23] [none, none, none, none, none, none, none, none] fun _ _ g r => ?_
  try simp [h2, h2_]
  and_intros <;> first | exact g _ (by kernel_rfl) | refine r _ _ _ ?_ | omega | (simp [h2, h2_, maxLen] <;> omega)
  refine WK [(3, AV.ptr 0 0), (4, AV.ptr 2 0), (5, AV.slc 3 0 1 (([0] : List Int).length) true), (6, AV.slc 4 0 1 (([0] : List Int).length) true), (7, AV.slc 5 0 1 (([0] : List Int).length) true), (8, AV.slc 6 0 1 (([0] : List Int).length) true)] [(0, .cells [Lz v4, Iz v8]), (2, .cells [Iz v6, AV.lst false false (List.map api_Arc.av v7)]), (3, .cells (List.map (AV.int .i64) ([0] : List Int))), (4, .cells (List.map (AV.int .i64) ([0] : List Int))), (5, .cells (List.map (AV.int .i64) ([0] : List Int))), (6, .cells (List.map (AV.int .i64) ([0] : List Int)))] 7 (by simp [h2, h2_]) (by simp [h2, h2_]) ?_
  refine AW.seq fun K567 hK567 => ?_
  refine SQ [] [none] fun _ _ g r => ?_
  try simp [h2, h2_]
  and_intros <;> first | exact g _ (by kernel_rfl) | refine r _ _ _ ?_ | omega | (simp [h2, h2_, maxLen] <;> omega)
  refine WK [(3, AV.ptr 0 0), (4, AV.ptr 2 0), (5, AV.slc 3 0 1 (([0] : List Int).length) true), (6, AV.slc 4 0 1 (([0] : List Int).length) true), (7, AV.slc 5 0 1 (([0] : List Int).length) true), (8, AV.slc 6 0 1 (([0] : List Int).length) true), (9, Iz 2)] [(0, .cells [Lz v4, Iz v8]), (2, .cells [Iz v6, AV.lst false false (List.map api_Arc.av v7)]), (3, .cells (List.map (AV.int .i64) ([0] : List Int))), (4, .cells (List.map (AV.int .i64) ([0] : List Int))), (5, .cells (List.map (AV.int .i64) ([0] : List Int))), (6, .cells (List.map (AV.int .i64) ([0] : List Int)))] 7 (by simp [h2, h2_]) (by simp [h2, h2_]) ?_
  refine AW.block ?_
  refine RM h0 [(0, 0), (1, 2), (2, 3), (3, 4), (4, 5), (5, 6)] [(3, AV.ptr 0 0), (4, AV.ptr 1 0), (5, AV.slc 2 0 1 (([0] : List Int).length) true), (6, AV.slc 3 0 1 (([0] : List Int).length) true), (7, AV.slc 4 0 1 (([0] : List Int).length) true), (8, AV.slc 5 0 1 (([0] : List Int).length) true), (9, Iz 2)] [(0, .cells [Lz v4, Iz v8]), (1, .cells [Iz v6, AV.lst false false (List.map api_Arc.av v7)]), (2, .cells (List.map (AV.int .i64) ([0] : List Int))), (3, .cells (List.map (AV.int .i64) ([0] : List Int))), (4, .cells (List.map (AV.int .i64) ([0] : List Int))), (5, .cells (List.map (AV.int .i64) ([0] : List Int)))] 6 (by simp [h2, h2_]) (by simp [h2, h2_]) ?_
  refine AW.flg [(5, AV.slc 2 0 1 (([0] : List Int).length) false), (6, AV.slc 3 0 1 (([0] : List Int).length) false), (7, AV.slc 4 0 1 (([0] : List Int).length) false), (8, AV.slc 5 0 1 (([0] : List Int).length) false)] [] ⟨.slc, .slc, .slc, .slc, trivial⟩ trivial (by simp) ?_
  refine AW.loopF (α := (Int × Int × (List Int) × (List Int) × (List Int) × (List Int))) (fun n (v9, v10, v11, v12, v13, v14) => law16_CutSides.L1 k v4 v6 v7 n v9 v10 v11 v12 v13 v14 = some v1) (fun (v9, v10, v11, v12, v13, v14) => [(3, AV.ptr 0 0), (4, AV.ptr 1 0), (5, AV.slc 2 0 1 v11.length false), (6, AV.slc 3 0 1 v12.length false), (7, AV.slc 4 0 1 v13.length false), (8, AV.slc 5 0 1 v14.length false), (9, Iz v9)]) (fun (v9, v10, v11, v12, v13, v14) => [(0, .cells [Lz v4, Iz v10]), (1, .cells [Iz v6, AV.lst false false (List.map api_Arc.av v7)]), (2, .cells (List.map (AV.int .i64) v11)), (3, .cells (List.map (AV.int .i64) v12)), (4, .cells (List.map (AV.int .i64) v13)), (5, .cells (List.map (AV.int .i64) v14))]) 6 k ((2, v8, ([0] : List Int), ([0] : List Int), ([0] : List Int), ([0] : List Int))) hF (by simp [h2, h2_]) (by simp [h2, h2_]) (by simp) ?_
  rintro (_|n1) ⟨v9, v10, v11, v12, v13, v14⟩ hF K704 hK704
  ·try dsimp only at hF
   rw [law16_CutSides.L1] at hF; cases hF
  try dsimp only at hF
  rw [law16_CutSides.L1] at hF
  refine AW.seq fun K706 hK706 => ?_
  refine SQ [] [none, none, none, none] fun _ _ g r => ?_
  try simp [h2, h2_]
  and_intros <;> first | exact g _ (by kernel_rfl) | refine r _ _ _ ?_ | omega | (simp [h2, h2_, maxLen] <;> omega)
  refine WK [(3, AV.ptr 0 0), (4, AV.ptr 1 0), (5, AV.slc 2 0 1 v11.length false), (6, AV.slc 3 0 1 v12.length false), (7, AV.slc 4 0 1 v13.length false), (8, AV.slc 5 0 1 v14.length false), (9, Iz v9), (27, AV.bool (decide (v9 < v6)))] [(0, .cells [Lz v4, Iz v10]), (1, .cells [Iz v6, AV.lst false false (List.map api_Arc.av v7)]), (2, .cells (List.map (AV.int .i64) v11)), (3, .cells (List.map (AV.int .i64) v12)), (4, .cells (List.map (AV.int .i64) v13)), (5, .cells (List.map (AV.int .i64) v14))] 6 (by simp [h2, h2_]) (by simp [h2, h2_]) ?_
  by_cases h6 : v9 < v6
  ·replace hF := ite_t h6 hF
   have h6_ := h6
   try simp at h6_
   have F1 := And.intro h2 (And.intro h2_ (And.intro h6 h6_))
   refine CT (by simp [F1] <;> omega) ?_
   refine AW.skip ?_
   refine hK706 _ _ _ ?_
   refine AW.midF (α := (Int × (List Int) × (List Int) × (List Int) × (List Int))) (fun (v15, v16, v17, v18, v19) => law16_CutSides.J2 k v9 (fun v9_ v10_ v11_ v12_ v13_ v14_ => law16_CutSides.L1 k v4 v6 v7 n1 v9_ v10_ v11_ v12_ v13_ v14_) v15 v16 v17 v18 v19 = some v1) (fun (v15, v16, v17, v18, v19) => [(3, AV.ptr 0 0), (4, AV.ptr 1 0), (5, AV.slc 2 0 1 v16.length false), (6, AV.slc 3 0 1 v17.length false), (7, AV.slc 4 0 1 v18.length false), (8, AV.slc 5 0 1 v19.length false), (9, Iz v9)]) (fun (v15, v16, v17, v18, v19) => [(0, .cells [Lz v4, Iz v15]), (1, .cells [Iz v6, AV.lst false false (List.map api_Arc.av v7)]), (2, .cells (List.map (AV.int .i64) v16)), (3, .cells (List.map (AV.int .i64) v17)), (4, .cells (List.map (AV.int .i64) v18)), (5, .cells (List.map (AV.int .i64) v19))]) 6 (fun K729 hK729 => ?_) ?_
   ·refine AW.block ?_
    refine SQ [] [none, none, none, none, none, none] fun _ _ g r => ?_
    try simp [F1]
    and_intros
    try any_goals first | omega | (simp [maxLen, F1] <;> omega)
    obtain ⟨v20, v21, h7, hF⟩ := bnd2_elim hF
    refine aCall_l (w_made_Dice_One k _ _ _ _ _ h7) (by simp) [0] [] [0] rfl (.cons (.same (by simp [F1])) (.cons (.same (by simp [F1])) .nil)) (by simp [F1]) (by decide) (by simp) (by simp) (.inl rfl) (by simp) (by simp) ?_
    try simp [F1]
    and_intros
    try any_goals first | omega | (simp [maxLen, F1] <;> omega)
    obtain ⟨v22, v23, h8, hF⟩ := bnd2_elim hF
    refine aCall_l (w_made_Dice_One k _ _ _ _ _ h8) (by simp) [0] [] [0] rfl (.cons (.same (by simp [F1])) (.cons (.same (by simp [F1])) .nil)) (by simp [F1]) (by decide) (by simp) (by simp) (.inl rfl) (by simp) (by simp) ?_
    try simp [F1]
    and_intros <;> first | exact g _ (by kernel_rfl) | refine r _ _ _ ?_ | omega | (simp [maxLen, F1] <;> omega)
    refine WK [(3, AV.ptr 0 0), (4, AV.ptr 1 0), (5, AV.slc 2 0 1 v11.length false), (6, AV.slc 3 0 1 v12.length false), (7, AV.slc 4 0 1 v13.length false), (8, AV.slc 5 0 1 v14.length false), (9, Iz v9), (10, AV.bool v20), (11, AV.bool v22)] [(0, .cells [Lz v4, Iz v23]), (1, .cells [Iz v6, AV.lst false false (List.map api_Arc.av v7)]), (2, .cells (List.map (AV.int .i64) v11)), (3, .cells (List.map (AV.int .i64) v12)), (4, .cells (List.map (AV.int .i64) v13)), (5, .cells (List.map (AV.int .i64) v14))] 6 (by simp [F1]) (by simp [F1]) ?_
    refine AW.midF (α := (List Int)) (fun v24 => law16_CutSides.J3 k v9 v12 v13 v14 v20 v22 v23 (fun v9_ v10_ v11_ v12_ v13_ v14_ => law16_CutSides.L1 k v4 v6 v7 n1 v9_ v10_ v11_ v12_ v13_ v14_) v24 = some v1) (fun v24 => [(3, AV.ptr 0 0), (4, AV.ptr 1 0), (5, AV.slc 2 0 1 v24.length false), (6, AV.slc 3 0 1 v12.length false), (7, AV.slc 4 0 1 v13.length false), (8, AV.slc 5 0 1 v14.length false), (9, Iz v9), (10, AV.bool v20), (11, AV.bool v22)]) (fun v24 => [(0, .cells [Lz v4, Iz v23]), (1, .cells [Iz v6, AV.lst false false (List.map api_Arc.av v7)]), (2, .cells (List.map (AV.int .i64) v24)), (3, .cells (List.map (AV.int .i64) v12)), (4, .cells (List.map (AV.int .i64) v13)), (5, .cells (List.map (AV.int .i64) v14))]) 6 (fun K747 hK747 => ?_) ?_
    ·refine SQ [] [none] fun _ _ g r => ?_
     try simp [F1]
     and_intros <;> first | exact g _ (by kernel_rfl) | refine r _ _ _ ?_ | omega | (simp [maxLen, F1] <;> omega)
     refine WK [(3, AV.ptr 0 0), (4, AV.ptr 1 0), (5, AV.slc 2 0 1 v11.length false), (6, AV.slc 3 0 1 v12.length false), (7, AV.slc 4 0 1 v13.length false), (8, AV.slc 5 0 1 v14.length false), (9, Iz v9), (10, AV.bool v20), (11, AV.bool v22), (34, AV.bool v20)] [(0, .cells [Lz v4, Iz v23]), (1, .cells [Iz v6, AV.lst false false (List.map api_Arc.av v7)]), (2, .cells (List.map (AV.int .i64) v11)), (3, .cells (List.map (AV.int .i64) v12)), (4, .cells (List.map (AV.int .i64) v13)), (5, .cells (List.map (AV.int .i64) v14))] 6 (by simp [F1]) (by simp [F1]) ?_
     by_cases h18 : v20 = true
     ·replace hF := ite_t h18 hF
      have h18_ := h18
      try simp at h18_
      have F2 := And.intro F1 (And.intro h18 h18_)
      refine CT (by simp [F2] <;> omega) ?_
      refine RG [] [none, none, none, none, none] fun _ _ g r => ?_
      obtain ⟨h19, hF⟩ := chk_elim hF
      have h19_ := h19
      try simp at h19_
      have F3 := And.intro F2 h19
      try simp [F3]
      and_intros <;> first | exact g _ (by kernel_rfl) | refine r _ _ _ ?_ | omega | (simp [maxLen, F3] <;> omega)
      refine hK747 _ _ _ ?_
      refine RN h0 [(0, 0), (1, 1), (2, 6), (3, 3), (4, 4), (5, 5)] [(3, AV.ptr 0 0), (4, AV.ptr 1 0), (5, AV.slc 2 0 1 ((v11 ++ ([v9] : List Int)).length) false), (6, AV.slc 3 0 1 v12.length false), (7, AV.slc 4 0 1 v13.length false), (8, AV.slc 5 0 1 v14.length false), (9, Iz v9), (10, AV.bool v20), (11, AV.bool v22)] [(0, .cells [Lz v4, Iz v23]), (1, .cells [Iz v6, AV.lst false false (List.map api_Arc.av v7)]), (2, .cells (List.map (AV.int .i64) (v11 ++ ([v9] : List Int)))), (3, .cells (List.map (AV.int .i64) v12)), (4, .cells (List.map (AV.int .i64) v13)), (5, .cells (List.map (AV.int .i64) v14))] 6 (by simp [F3] <;> omega) (by simp [F3]) ?_
      exact JN (v11 ++ ([v9] : List Int)) hF (by simp [F3]) (by simp [F3])
     ·replace hF := ite_f h18 hF
      have h18_ := h18
      try simp at h18_
      have F4 := And.intro F1 (And.intro h18 h18_)
      refine CF (by simp [F4] <;> omega) ?_
      refine AW.skip ?_
      refine hK747 _ _ _ ?_
      exact JN (v11) hF (by simp [F4]) (by simp [F4])
    ·rintro v24 hF
     try dsimp only at hF
     unfold law16_CutSides.J3 at hF
     refine AW.midF (α := (List Int)) (fun v25 => law16_CutSides.J4 k v9 v13 v14 v20 v22 v23 v24 (fun v9_ v10_ v11_ v12_ v13_ v14_ => law16_CutSides.L1 k v4 v6 v7 n1 v9_ v10_ v11_ v12_ v13_ v14_) v25 = some v1) (fun v25 => [(3, AV.ptr 0 0), (4, AV.ptr 1 0), (5, AV.slc 2 0 1 v24.length false), (6, AV.slc 3 0 1 v25.length false), (7, AV.slc 4 0 1 v13.length false), (8, AV.slc 5 0 1 v14.length false), (9, Iz v9), (10, AV.bool v20), (11, AV.bool v22)]) (fun v25 => [(0, .cells [Lz v4, Iz v23]), (1, .cells [Iz v6, AV.lst false false (List.map api_Arc.av v7)]), (2, .cells (List.map (AV.int .i64) v24)), (3, .cells (List.map (AV.int .i64) v25)), (4, .cells (List.map (AV.int .i64) v13)), (5, .cells (List.map (AV.int .i64) v14))]) 6 (fun K744 hK744 => ?_) ?_
     ·refine SQ [] [none] fun _ _ g r => ?_
      try simp [F1]
      and_intros <;> first | exact g _ (by kernel_rfl) | refine r _ _ _ ?_ | omega | (simp [maxLen, F1] <;> omega)
      refine WK [(3, AV.ptr 0 0), (4, AV.ptr 1 0), (5, AV.slc 2 0 1 v24.length false), (6, AV.slc 3 0 1 v12.length false), (7, AV.slc 4 0 1 v13.length false), (8, AV.slc 5 0 1 v14.length false), (9, Iz v9), (10, AV.bool v20), (11, AV.bool v22), (39, AV.bool v22)] [(0, .cells [Lz v4, Iz v23]), (1, .cells [Iz v6, AV.lst false false (List.map api_Arc.av v7)]), (2, .cells (List.map (AV.int .i64) v24)), (3, .cells (List.map (AV.int .i64) v12)), (4, .cells (List.map (AV.int .i64) v13)), (5, .cells (List.map (AV.int .i64) v14))] 6 (by simp [F1]) (by simp [F1]) ?_
      by_cases h16 : v22 = true
      ·replace hF := ite_t h16 hF
       have h16_ := h16
       try simp at h16_
       have F5 := And.intro F1 (And.intro h16 h16_)
       refine CT (by simp [F5] <;> omega) ?_
       refine RG [] [none, none, none, none, none] fun _ _ g r => ?_
       obtain ⟨h17, hF⟩ := chk_elim hF
       have h17_ := h17
       try simp at h17_
       have F6 := And.intro F5 h17
       try simp [F6]
       and_intros <;> first | exact g _ (by kernel_rfl) | refine r _ _ _ ?_ | omega | (simp [maxLen, F6] <;> omega)
       refine hK744 _ _ _ ?_
       refine RN h0 [(0, 0), (1, 1), (2, 2), (3, 6), (4, 4), (5, 5)] [(3, AV.ptr 0 0), (4, AV.ptr 1 0), (5, AV.slc 2 0 1 v24.length false), (6, AV.slc 3 0 1 ((v12 ++ ([v9] : List Int)).length) false), (7, AV.slc 4 0 1 v13.length false), (8, AV.slc 5 0 1 v14.length false), (9, Iz v9), (10, AV.bool v20), (11, AV.bool v22)] [(0, .cells [Lz v4, Iz v23]), (1, .cells [Iz v6, AV.lst false false (List.map api_Arc.av v7)]), (2, .cells (List.map (AV.int .i64) v24)), (3, .cells (List.map (AV.int .i64) (v12 ++ ([v9] : List Int)))), (4, .cells (List.map (AV.int .i64) v13)), (5, .cells (List.map (AV.int .i64) v14))] 6 (by simp [F6] <;> omega) (by simp [F6]) ?_
       exact JN (v12 ++ ([v9] : List Int)) hF (by simp [F6]) (by simp [F6])
      ·replace hF := ite_f h16 hF
       have h16_ := h16
       try simp at h16_
       have F7 := And.intro F1 (And.intro h16 h16_)
       refine CF (by simp [F7] <;> omega) ?_
       refine AW.skip ?_
       refine hK744 _ _ _ ?_
       exact JN (v12) hF (by simp [F7]) (by simp [F7])
     ·rintro v25 hF
      try dsimp only at hF
      unfold law16_CutSides.J4 at hF
      refine AW.midF (α := ((List Int) × Bool)) (fun (v26, v27) => law16_CutSides.J5 k v9 v14 v22 v23 v24 v25 (fun v9_ v10_ v11_ v12_ v13_ v14_ => law16_CutSides.L1 k v4 v6 v7 n1 v9_ v10_ v11_ v12_ v13_ v14_) v26 v27 = some v1) (fun (v26, v27) => [(3, AV.ptr 0 0), (4, AV.ptr 1 0), (5, AV.slc 2 0 1 v24.length false), (6, AV.slc 3 0 1 v25.length false), (7, AV.slc 4 0 1 v26.length false), (8, AV.slc 5 0 1 v14.length false), (9, Iz v9), (10, AV.bool v27), (11, AV.bool v22)]) (fun (v26, v27) => [(0, .cells [Lz v4, Iz v23]), (1, .cells [Iz v6, AV.lst false false (List.map api_Arc.av v7)]), (2, .cells (List.map (AV.int .i64) v24)), (3, .cells (List.map (AV.int .i64) v25)), (4, .cells (List.map (AV.int .i64) v26)), (5, .cells (List.map (AV.int .i64) v14))]) 6 (fun K740 hK740 => ?_) ?_
      ·refine SQ [] [none, none, some (45, false), none] fun _ _ g r => ?_
       by_cases h12 : v20 = true
       ·replace hF := ite_t h12 hF
        have h12_ := h12
        try simp at h12_
        have F8 := And.intro F1 (And.intro h12 h12_)
        try simp [F8]
        and_intros <;> first | exact g _ (by kernel_rfl) | refine r _ _ _ ?_ | omega | (simp [maxLen, F8] <;> omega)
        refine WK [(3, AV.ptr 0 0), (4, AV.ptr 1 0), (5, AV.slc 2 0 1 v24.length false), (6, AV.slc 3 0 1 v25.length false), (7, AV.slc 4 0 1 v13.length false), (8, AV.slc 5 0 1 v14.length false), (9, Iz v9), (10, AV.bool true), (11, AV.bool v22), (47, AV.bool true)] [(0, .cells [Lz v4, Iz v23]), (1, .cells [Iz v6, AV.lst false false (List.map api_Arc.av v7)]), (2, .cells (List.map (AV.int .i64) v24)), (3, .cells (List.map (AV.int .i64) v25)), (4, .cells (List.map (AV.int .i64) v13)), (5, .cells (List.map (AV.int .i64) v14))] 6 (by simp [F8]) (by simp [F8]) ?_
        refine CT (by simp [F8]) ?_
        refine RG [] [none, none, none, none, none] fun _ _ g r => ?_
        obtain ⟨h13, hF⟩ := chk_elim hF
        have h13_ := h13
        try simp at h13_
        have F9 := And.intro F8 h13
        try simp [F9]
        and_intros <;> first | exact g _ (by kernel_rfl) | refine r _ _ _ ?_ | omega | (simp [maxLen, F9] <;> omega)
        refine hK740 _ _ _ ?_
        refine RN h0 [(0, 0), (1, 1), (2, 2), (3, 3), (4, 6), (5, 5)] [(3, AV.ptr 0 0), (4, AV.ptr 1 0), (5, AV.slc 2 0 1 v24.length false), (6, AV.slc 3 0 1 v25.length false), (7, AV.slc 4 0 1 ((v13 ++ ([v9] : List Int)).length) false), (8, AV.slc 5 0 1 v14.length false), (9, Iz v9), (10, AV.bool true), (11, AV.bool v22)] [(0, .cells [Lz v4, Iz v23]), (1, .cells [Iz v6, AV.lst false false (List.map api_Arc.av v7)]), (2, .cells (List.map (AV.int .i64) v24)), (3, .cells (List.map (AV.int .i64) v25)), (4, .cells (List.map (AV.int .i64) (v13 ++ ([v9] : List Int)))), (5, .cells (List.map (AV.int .i64) v14))] 6 (by simp [F9] <;> omega) (by simp [F9]) ?_
        exact JN ((v13 ++ ([v9] : List Int), true)) hF (by simp [F9]) (by simp [F9])
       ·replace hF := ite_f h12 hF
        have h12_ := h12
        try simp at h12_
        have F10 := And.intro F1 (And.intro h12 h12_)
        try simp [F10]
        and_intros <;> first | exact g _ (by kernel_rfl) | refine r _ _ _ ?_ | omega | (simp [maxLen, F10] <;> omega)
        refine WK [(3, AV.ptr 0 0), (4, AV.ptr 1 0), (5, AV.slc 2 0 1 v24.length false), (6, AV.slc 3 0 1 v25.length false), (7, AV.slc 4 0 1 v13.length false), (8, AV.slc 5 0 1 v14.length false), (9, Iz v9), (10, AV.bool false), (11, AV.bool v22), (47, AV.bool v22)] [(0, .cells [Lz v4, Iz v23]), (1, .cells [Iz v6, AV.lst false false (List.map api_Arc.av v7)]), (2, .cells (List.map (AV.int .i64) v24)), (3, .cells (List.map (AV.int .i64) v25)), (4, .cells (List.map (AV.int .i64) v13)), (5, .cells (List.map (AV.int .i64) v14))] 6 (by simp [F10]) (by simp [F10]) ?_
        by_cases h14 : v22 = true
        ·replace hF := ite_t h14 hF
         have h14_ := h14
         try simp at h14_
         have F11 := And.intro F10 (And.intro h14 h14_)
         refine CT (by simp [F11] <;> omega) ?_
         refine RG [] [none, none, none, none, none] fun _ _ g r => ?_
         obtain ⟨h15, hF⟩ := chk_elim hF
         have h15_ := h15
         try simp at h15_
         have F12 := And.intro F11 h15
         try simp [F12]
         and_intros <;> first | exact g _ (by kernel_rfl) | refine r _ _ _ ?_ | omega | (simp [maxLen, F12] <;> omega)
         refine hK740 _ _ _ ?_
         refine RN h0 [(0, 0), (1, 1), (2, 2), (3, 3), (4, 6), (5, 5)] [(3, AV.ptr 0 0), (4, AV.ptr 1 0), (5, AV.slc 2 0 1 v24.length false), (6, AV.slc 3 0 1 v25.length false), (7, AV.slc 4 0 1 ((v13 ++ ([v9] : List Int)).length) false), (8, AV.slc 5 0 1 v14.length false), (9, Iz v9), (10, AV.bool false), (11, AV.bool v22)] [(0, .cells [Lz v4, Iz v23]), (1, .cells [Iz v6, AV.lst false false (List.map api_Arc.av v7)]), (2, .cells (List.map (AV.int .i64) v24)), (3, .cells (List.map (AV.int .i64) v25)), (4, .cells (List.map (AV.int .i64) (v13 ++ ([v9] : List Int)))), (5, .cells (List.map (AV.int .i64) v14))] 6 (by simp [F12] <;> omega) (by simp [F12]) ?_
         exact JN ((v13 ++ ([v9] : List Int), false)) hF (by simp [F12]) (by simp [F12])
        ·replace hF := ite_f h14 hF
         have h14_ := h14
         try simp at h14_
         have F13 := And.intro F10 (And.intro h14 h14_)
         refine CF (by simp [F13] <;> omega) ?_
         refine AW.skip ?_
         refine hK740 _ _ _ ?_
         exact JN ((v13, false)) hF (by simp [F13]) (by simp [F13])
      ·rintro ⟨v26, v27⟩ hF
       try dsimp only at hF
       unfold law16_CutSides.J5 at hF
       refine SQ [] [none, none, some (53, true), none] fun _ _ g r => ?_
       by_cases h9 : v27 = true
       ·replace hF := ite_t h9 hF
        have h9_ := h9
        try simp at h9_
        have F14 := And.intro F1 (And.intro h9 h9_)
        try simp [F14]
        and_intros <;> first | exact g _ (by kernel_rfl) | refine r _ _ _ ?_ | omega | (simp [maxLen, F14] <;> omega)
        refine WK [(3, AV.ptr 0 0), (4, AV.ptr 1 0), (5, AV.slc 2 0 1 v24.length false), (6, AV.slc 3 0 1 v25.length false), (7, AV.slc 4 0 1 v26.length false), (8, AV.slc 5 0 1 v14.length false), (9, Iz v9), (55, AV.bool v22)] [(0, .cells [Lz v4, Iz v23]), (1, .cells [Iz v6, AV.lst false false (List.map api_Arc.av v7)]), (2, .cells (List.map (AV.int .i64) v24)), (3, .cells (List.map (AV.int .i64) v25)), (4, .cells (List.map (AV.int .i64) v26)), (5, .cells (List.map (AV.int .i64) v14))] 6 (by simp [F14]) (by simp [F14]) ?_
        by_cases h10 : v22 = true
        ·replace hF := ite_t h10 hF
         have h10_ := h10
         try simp at h10_
         have F15 := And.intro F14 (And.intro h10 h10_)
         refine CT (by simp [F15] <;> omega) ?_
         refine RG [] [none, none, none, none, none] fun _ _ g r => ?_
         obtain ⟨h11, hF⟩ := chk_elim hF
         have h11_ := h11
         try simp at h11_
         have F16 := And.intro F15 h11
         try simp [F16]
         and_intros <;> first | exact g _ (by kernel_rfl) | refine r _ _ _ ?_ | omega | (simp [maxLen, F16] <;> omega)
         refine hK729 _ _ _ ?_
         refine RN h0 [(0, 0), (1, 1), (2, 2), (3, 3), (4, 4), (5, 6)] [(3, AV.ptr 0 0), (4, AV.ptr 1 0), (5, AV.slc 2 0 1 v24.length false), (6, AV.slc 3 0 1 v25.length false), (7, AV.slc 4 0 1 v26.length false), (8, AV.slc 5 0 1 ((v14 ++ ([v9] : List Int)).length) false), (9, Iz v9)] [(0, .cells [Lz v4, Iz v23]), (1, .cells [Iz v6, AV.lst false false (List.map api_Arc.av v7)]), (2, .cells (List.map (AV.int .i64) v24)), (3, .cells (List.map (AV.int .i64) v25)), (4, .cells (List.map (AV.int .i64) v26)), (5, .cells (List.map (AV.int .i64) (v14 ++ ([v9] : List Int))))] 6 (by simp [F16] <;> omega) (by simp [F16]) ?_
         exact JN ((v23, v24, v25, v26, v14 ++ ([v9] : List Int))) hF (by simp [F16]) (by simp [F16])
        ·replace hF := ite_f h10 hF
         have h10_ := h10
         try simp at h10_
         have F17 := And.intro F14 (And.intro h10 h10_)
         refine CF (by simp [F17] <;> omega) ?_
         refine AW.skip ?_
         refine hK729 _ _ _ ?_
         exact JN ((v23, v24, v25, v26, v14)) hF (by simp [F17]) (by simp [F17])
       ·replace hF := ite_f h9 hF
        have h9_ := h9
        try simp at h9_
        have F18 := And.intro F1 (And.intro h9 h9_)
        try simp [F18]
        and_intros <;> first | exact g _ (by kernel_rfl) | refine r _ _ _ ?_ | omega | (simp [maxLen, F18] <;> omega)
        refine WK [(3, AV.ptr 0 0), (4, AV.ptr 1 0), (5, AV.slc 2 0 1 v24.length false), (6, AV.slc 3 0 1 v25.length false), (7, AV.slc 4 0 1 v26.length false), (8, AV.slc 5 0 1 v14.length false), (9, Iz v9), (55, AV.bool false)] [(0, .cells [Lz v4, Iz v23]), (1, .cells [Iz v6, AV.lst false false (List.map api_Arc.av v7)]), (2, .cells (List.map (AV.int .i64) v24)), (3, .cells (List.map (AV.int .i64) v25)), (4, .cells (List.map (AV.int .i64) v26)), (5, .cells (List.map (AV.int .i64) v14))] 6 (by simp [F18]) (by simp [F18]) ?_
        refine CF (by simp [F18]) ?_
        refine AW.skip ?_
        refine hK729 _ _ _ ?_
        exact JN ((v23, v24, v25, v26, v14)) hF (by simp [F18]) (by simp [F18])
   ·rintro ⟨v15, v16, v17, v18, v19⟩ hF
    try dsimp only at hF
    unfold law16_CutSides.J2 at hF
    refine RG [] [none, none, none] fun _ _ g r => ?_
    try simp [F1]
    and_intros <;> first | exact g _ (by kernel_rfl) | refine r _ _ _ ?_ | omega | (simp [maxLen, F1] <;> omega)
    refine hK704 _ _ _ ?_
    exact NX (k' := n1) ((IntKind.wrap .i64 (v9 + 1), v15, v16, v17, v18, v19)) hF (by simp [F1]) (by simp [F1])
  ·replace hF := ite_f h6 hF
   have h6_ := h6
   try simp at h6_
   have F19 := And.intro h2 (And.intro h2_ (And.intro h6 h6_))
   refine CF (by simp [F19] <;> omega) ?_
   refine AW.exit ?_
   try simp
   refine hK567 _ _ _ ?_
   refine WK [(4, AV.ptr 1 0), (5, AV.slc 2 0 1 v11.length false), (6, AV.slc 3 0 1 v12.length false), (7, AV.slc 4 0 1 v13.length false), (8, AV.slc 5 0 1 v14.length false)] [(1, .cells [Iz v6, AV.lst false false (List.map api_Arc.av v7)]), (2, .cells (List.map (AV.int .i64) v11)), (3, .cells (List.map (AV.int .i64) v12)), (4, .cells (List.map (AV.int .i64) v13)), (5, .cells (List.map (AV.int .i64) v14))] 6 (by simp [F19]) (by simp [F19]) ?_
   refine AW.frz 2 (o := .cells (List.map (AV.int .i64) v11)) (by simp [F19]) rfl [(5, Lz v11)] [] ⟨(.l (by simp) (by simp) (by simp) (by simp)), trivial⟩ trivial ?_
   refine AW.frz 3 (o := .cells (List.map (AV.int .i64) v12)) (by simp [F19]) rfl [(6, Lz v12)] [] ⟨(.l (by simp) (by simp) (by simp) (by simp)), trivial⟩ trivial ?_
   refine AW.frz 4 (o := .cells (List.map (AV.int .i64) v13)) (by simp [F19]) rfl [(7, Lz v13)] [] ⟨(.l (by simp) (by simp) (by simp) (by simp)), trivial⟩ trivial ?_
   refine AW.frz 5 (o := .cells (List.map (AV.int .i64) v14)) (by simp [F19]) rfl [(8, Lz v14)] [] ⟨(.l (by simp) (by simp) (by simp) (by simp)), trivial⟩ trivial ?_
   refine WK [(4, AV.ptr 1 0), (5, Lz v11), (6, Lz v12), (7, Lz v13), (8, Lz v14)] [(1, .cells [Iz v6, AV.lst false false (List.map api_Arc.av v7)])] 6 (by simp [F19]) (by simp [F19]) ?_
   refine SQ [] [none, none, some (61, true), some (61, true), some (61, true), some (61, true), some (61, true), some (61, true), some (61, true), some (61, true), some (61, true), some (61, true), some (61, true), some (61, true), some (61, true), some (61, true), some (61, true), none, none, some (78, true), some (78, true), some (78, true), none, none, some (83, true), some (83, true), some (83, true), none, none] fun _ _ g r => ?_
   try simp [F19]
   and_intros
   try any_goals first | omega | (simp [maxLen, F19] <;> omega)
   obtain ⟨v28, h20, hF⟩ := bnd1_elim hF
   refine AC (w_law16_awake k _ h20) .nil ?_
   by_cases h21 : v28 = true
   ·replace hF := ite_t h21 hF
    have h21_ := h21
    try simp at h21_
    have F20 := And.intro F19 (And.intro h21 h21_)
    try simp [F20]
    and_intros
    try any_goals first | omega | (simp [maxLen, F20] <;> omega)
    obtain ⟨v29, h22, hF⟩ := bnd1_elim hF
    refine AC (w_cut_Capacity k _ _ _ _ h22) (.cons (.same (by simp [F20])) (.cons (.same (by simp [F20])) .nil)) ?_
    try simp [F20]
    and_intros
    try any_goals first | omega | (simp [maxLen, F20] <;> omega)
    obtain ⟨v30, h23, hF⟩ := bnd1_elim hF
    refine AC (w_cut_Capacity k _ _ _ _ h23) (.cons (.same (by simp [F20])) (.cons (.same (by simp [F20])) .nil)) ?_
    try simp [F20]
    and_intros
    try any_goals first | omega | (simp [maxLen, F20] <;> omega)
    obtain ⟨v31, h24, hF⟩ := bnd1_elim hF
    refine AC (w_cut_Capacity k _ _ _ _ h24) (.cons (.same (by simp [F20])) (.cons (.same (by simp [F20])) .nil)) ?_
    try simp [F20]
    and_intros
    try any_goals first | omega | (simp [maxLen, F20] <;> omega)
    obtain ⟨v32, h25, hF⟩ := bnd1_elim hF
    refine AC (w_cut_Capacity k _ _ _ _ h25) (.cons (.same (by simp [F20])) (.cons (.same (by simp [F20])) .nil)) ?_
    by_cases h26 : IntKind.wrap .i64 (v29 + v30) ≤ IntKind.wrap .i64 (v31 + v32)
    ·replace hF := ite_t h26 hF
     have h26_ := h26
     try simp at h26_
     have F21 := And.intro F20 (And.intro h26 h26_)
     try simp [F21]
     and_intros
     try any_goals first | omega | (simp [maxLen, F21] <;> omega)
     obtain ⟨v33, h27, hF⟩ := bnd1_elim hF
     refine AC (w_cut_Valid k _ _ _ _ h27) (.cons (.same (by simp [F21])) (.cons (.same (by simp [F21])) .nil)) ?_
     by_cases h28 : v33 = true
     ·replace hF := ite_t h28 hF
      have h28_ := h28
      try simp at h28_
      have F22 := And.intro F21 (And.intro h28 h28_)
      try simp [F22]
      and_intros
      try any_goals first | omega | (simp [maxLen, F22] <;> omega)
      obtain ⟨v34, h29, hF⟩ := bnd1_elim hF
      refine AC (w_cut_Valid k _ _ _ _ h29) (.cons (.same (by simp [F22])) (.cons (.same (by simp [F22])) .nil)) ?_
      try simp [F22]
      and_intros <;> first | exact g _ (by kernel_rfl) | refine r _ _ _ ?_ | omega | (simp [maxLen, F22] <;> omega)
      refine WK [(2, AV.bool v34)] [] 6 (by simp [F22]) (by simp [F22]) ?_
      simp only [Option.some.injEq] at hF
      subst hF
      refine AW.ret (hQ _ _ _ ?_ (matchO_0 ?_)).1
      ·simp [Try.f11, F22]
      ·simp [F22]
     ·replace hF := ite_f h28 hF
      have h28_ := h28
      try simp at h28_
      have F23 := And.intro F21 (And.intro h28 h28_)
      try simp [F23]
      and_intros <;> first | exact g _ (by kernel_rfl) | refine r _ _ _ ?_ | omega | (simp [maxLen, F23] <;> omega)
      refine WK [(2, AV.bool false)] [] 6 (by simp [F23]) (by simp [F23]) ?_
      simp only [Option.some.injEq] at hF
      subst hF
      refine AW.ret (hQ _ _ _ ?_ (matchO_0 ?_)).1
      ·simp [Try.f11, F23]
      ·simp [F23]
    ·replace hF := ite_f h26 hF
     have h26_ := h26
     try simp at h26_
     have F24 := And.intro F20 (And.intro h26 h26_)
     try simp [F24]
     and_intros <;> first | exact g _ (by kernel_rfl) | refine r _ _ _ ?_ | omega | (simp [maxLen, F24] <;> omega)
     refine WK [(2, AV.bool false)] [] 6 (by simp [F24]) (by simp [F24]) ?_
     simp only [Option.some.injEq] at hF
     subst hF
     refine AW.ret (hQ _ _ _ ?_ (matchO_0 ?_)).1
     ·simp [Try.f11, F24]
     ·simp [F24]
   ·replace hF := ite_f h21 hF
    have h21_ := h21
    try simp at h21_
    have F25 := And.intro F19 (And.intro h21 h21_)
    try simp [F25]
    and_intros <;> first | exact g _ (by kernel_rfl) | refine r _ _ _ ?_ | omega | (simp [maxLen, F25] <;> omega)
    refine WK [(2, AV.bool false)] [] 6 (by simp [F25]) (by simp [F25]) ?_
    simp only [Option.some.injEq] at hF
    subst hF
    refine AW.ret (hQ _ _ _ ?_ (matchO_0 ?_)).1
    ·simp [Try.f11, F25]
    ·simp [F25]
end Go.TF
