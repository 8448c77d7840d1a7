/- Walks: the Go text computes the Lean functions (printed by a program of our own). -/
import Derived.Test.YtjmcidiplbkmpaaEaPu
import Derived.Test.YtjmcidiplbkmpaaEaAbsT
import Derived.Test.YtjmcidiplbkmpaaEaWa0
import Derived.Test.YtjmcidiplbkmpaaEaWa1
import Derived.Test.YtjmcidiplbkmpaaEaWa2
set_option linter.unusedVariables false
set_option linter.unusedSimpArgs false
set_option maxRecDepth 100000
set_option maxHeartbeats 4000000
namespace Go.TF
open Go Go.Abs Go.Proofs Go.Proofs.YtjmcidiplbkmpaaEaT
theorem w_made_Roll (k : Nat) (v0 : (List Int)) (v1 : (List Int)) (v2 : Int) (hF : made_Roll k v0 = some (v1, v2)) :
  FCall Try.prog 17 [AV.lst false false (List.map (AV.int .i64) v0)] [] (AV.ptr 0 0) [some (.cells [AV.lst false false (List.map (AV.int .i64) v1), AV.int .i64 v2])] := by
 unfold made_Roll at hF
 refine EN Try.func17 ?_
 intro c0 w0 Q h0 hQ
 refine WK [(0, Lz v0)] [] 0 (by simp) (by simp) ?_
 refine SQ [] [none] fun _ _ g r => ?_
 try simp
 and_intros <;> first | exact g _ (by kernel_rfl) | refine r _ _ _ ?_ | omega | (simp [maxLen] <;> omega)
 refine WK [(0, Lz v0)] [] 0 (by simp) (by simp) ?_
 refine SQ [] [none, none, none, none] fun _ _ g r => ?_
 try simp
 and_intros <;> first | exact g _ (by kernel_rfl) | refine r _ _ _ ?_ | omega | (simp [maxLen] <;> omega)
 refine WK [(2, AV.ptr 0 0)] [(0, .cells [Lz v0, Iz 0])] 1 (by simp) (by simp) ?_
 simp only [Option.some.injEq, Prod.mk.injEq] at hF
 obtain ⟨e0, e1⟩ := hF
 subst e0 e1
 refine AW.ret (hQ _ _ _ ?_ (matchO_0 ?_)).1
 ·simp [Try.f17]
 ·simp
theorem w_made_Mod (k : Nat) (v0 : Int) (v1 : Int) (v2 : Int) (hF : made_Mod k v0 v1 = some v2) :
  FCall Try.prog 20 [AV.int .i64 v0, AV.int .i64 v1] [] (AV.int .i64 v2) [] := by
 unfold made_Mod at hF
 refine EN Try.func20 ?_
 intro c0 w0 Q h0 hQ
 refine WK [(0, Iz v0), (1, Iz v1)] [] 0 (by simp) (by simp) ?_
 refine SQ [] [none] fun _ _ g r => ?_
 try simp
 and_intros <;> first | exact g _ (by kernel_rfl) | refine r _ _ _ ?_ | omega | (simp [maxLen] <;> omega)
 refine WK [(0, Iz v0), (1, Iz v1)] [] 0 (by simp) (by simp) ?_
 refine AW.seq fun K17 hK17 => ?_
 refine SQ [] [none, none] fun _ _ g r => ?_
 try simp
 and_intros <;> first | exact g _ (by kernel_rfl) | refine r _ _ _ ?_ | omega | (simp [maxLen] <;> omega)
 refine WK [(0, Iz v0), (1, Iz v1), (6, AV.bool (decide (v1 < 1)))] [] 0 (by simp) (by simp) ?_
 by_cases h1 : v1 < 1
 ·replace hF := ite_t h1 hF
  have h1_ := h1
  try simp at h1_
  refine CT (by simp [h1, h1_] <;> omega) ?_
  refine SQ [] [none] fun _ _ g r => ?_
  try simp [h1, h1_]
  and_intros <;> first | exact g _ (by kernel_rfl) | refine r _ _ _ ?_ | omega | (simp [h1, h1_, maxLen] <;> omega)
  refine WK [(4, Iz 0)] [] 0 (by simp [h1, h1_]) (by simp [h1, h1_]) ?_
  simp only [Option.some.injEq] at hF
  subst hF
  refine AW.ret (hQ _ _ _ ?_ (matchO_0 ?_)).1
  ·simp [Try.f20, h1, h1_]
  ·simp [h1, h1_]
 ·replace hF := ite_f h1 hF
  have h1_ := h1
  try simp at h1_
  refine CF (by simp [h1, h1_] <;> omega) ?_
  refine AW.skip ?_
  refine hK17 _ _ _ ?_
  refine SQ [] [none, none, none, none] fun _ _ g r => ?_
  obtain ⟨h2, hF⟩ := chk_elim hF
  have h2_ := h2
  try simp at h2_
  have F1 := And.intro h1 (And.intro h1_ (And.intro h2 h2_))
  try simp [F1]
  and_intros <;> first | exact g _ (by kernel_rfl) | refine r _ _ _ ?_ | omega | (simp [maxLen, F1] <;> omega)
  refine WK [(0, Iz (Int.tmod v0 v1)), (1, Iz v1)] [] 0 (by simp [F1]) (by simp [F1]) ?_
  refine AW.midF (α := Int) (fun v3 => made_Mod.J1 k v3 = some v2) (fun v3 => [(0, Iz v3)]) (fun v3 => []) 0 (fun K24 hK24 => ?_) ?_
  ·refine SQ [] [none, none] fun _ _ g r => ?_
   try simp [F1]
   and_intros <;> first | exact g _ (by kernel_rfl) | refine r _ _ _ ?_ | omega | (simp [maxLen, F1] <;> omega)
   refine WK [(0, Iz (Int.tmod v0 v1)), (1, Iz v1), (11, AV.bool (decide (Int.tmod v0 v1 < 0)))] [] 0 (by simp [F1]) (by simp [F1]) ?_
   by_cases h3 : Int.tmod v0 v1 < 0
   ·replace hF := ite_t h3 hF
    have h3_ := h3
    try simp at h3_
    have F2 := And.intro F1 (And.intro h3 h3_)
    refine CT (by simp [F2] <;> omega) ?_
    refine RG [] [none, none, none, none] fun _ _ g r => ?_
    try simp [F2]
    and_intros <;> first | exact g _ (by kernel_rfl) | refine r _ _ _ ?_ | omega | (simp [maxLen, F2] <;> omega)
    refine hK24 _ _ _ ?_
    exact JN (IntKind.wrap .i64 (Int.tmod v0 v1 + v1)) hF (by simp [F2]) (by simp [F2])
   ·replace hF := ite_f h3 hF
    have h3_ := h3
    try simp at h3_
    have F3 := And.intro F1 (And.intro h3 h3_)
    refine CF (by simp [F3] <;> omega) ?_
    refine AW.skip ?_
    refine hK24 _ _ _ ?_
    exact JN (Int.tmod v0 v1) hF (by simp [F3]) (by simp [F3])
  ·rintro v3 hF
   try dsimp only at hF
   unfold made_Mod.J1 at hF
   refine SQ [] [none, none] fun _ _ g r => ?_
   try simp [F1]
   and_intros <;> first | exact g _ (by kernel_rfl) | refine r _ _ _ ?_ | omega | (simp [maxLen, F1] <;> omega)
   refine WK [(4, Iz v3)] [] 0 (by simp [F1]) (by simp [F1]) ?_
   simp only [Option.some.injEq] at hF
   subst hF
   refine AW.ret (hQ _ _ _ ?_ (matchO_0 ?_)).1
   ·simp [Try.f20, F1]
   ·simp [F1]
theorem w_made_Dice_Next (k : Nat) (v0 : (List Int)) (v1 : Int) (v2 : Int) (v3 : Int) (v4 : Int) (hF : made_Dice_Next k v0 v1 v2 = some (v3, v4)) :
  FCall Try.prog 21 [AV.ptr 0 0, AV.int .i64 v2] [.cells [AV.lst false false (List.map (AV.int .i64) v0), AV.int .i64 v1]] (AV.int .i64 v3) [some (.cells [AV.lst false false (List.map (AV.int .i64) v0), AV.int .i64 v4])] := by
 unfold made_Dice_Next at hF
 refine EN Try.func21 ?_
 intro c0 w0 Q h0 hQ
 refine WK [(0, AV.ptr 0 0), (1, Iz v2)] [(0, .cells [Lz v0, Iz v1])] 1 (by simp) (by simp) ?_
 refine SQ [] [none] fun _ _ g r => ?_
 try simp
 and_intros <;> first | exact g _ (by kernel_rfl) | refine r _ _ _ ?_ | omega | (simp [maxLen] <;> omega)
 refine WK [(0, AV.ptr 0 0), (1, Iz v2)] [(0, .cells [Lz v0, Iz v1])] 1 (by simp) (by simp) ?_
 refine AW.seq fun K12 hK12 => ?_
 refine SQ [] [none, none, none, none, none, none, none, none, none, none] fun _ _ g r => ?_
 try simp
 and_intros <;> first | exact g _ (by kernel_rfl) | refine r _ _ _ ?_ | omega | (simp [maxLen] <;> omega)
 refine WK [(0, AV.ptr 0 0), (1, Iz v2), (14, AV.bool (decide ((v0.length : Int) ≤ v1)))] [(0, .cells [Lz v0, Iz v1])] 1 (by simp) (by simp) ?_
 by_cases h1 : (v0.length : Int) ≤ v1
 ·replace hF := ite_t h1 hF
  have h1_ := h1
  try simp at h1_
  refine CT (by simp [h1, h1_] <;> omega) ?_
  refine SQ [] [none] fun _ _ g r => ?_
  try simp [h1, h1_]
  and_intros <;> first | exact g _ (by kernel_rfl) | refine r _ _ _ ?_ | omega | (simp [h1, h1_, maxLen] <;> omega)
  refine WK [(4, Iz 0)] [(0, .cells [Lz v0, Iz v1])] 1 (by simp [h1, h1_]) (by simp [h1, h1_]) ?_
  simp only [Option.some.injEq, Prod.mk.injEq] at hF
  obtain ⟨e0, e1⟩ := hF
  subst e0 e1
  refine AW.ret (hQ _ _ _ ?_ (matchO_0 ?_)).1
  ·simp [Try.f21, h1, h1_]
  ·simp [h1, h1_]
 ·replace hF := ite_f h1 hF
  have h1_ := h1
  try simp at h1_
  refine CF (by simp [h1, h1_] <;> omega) ?_
  refine AW.skip ?_
  refine hK12 _ _ _ ?_
  refine SQ [] [none, none, none, none, none, none, none, none] fun _ _ g r => ?_
  try simp [h1, h1_]
  and_intros <;> first | exact g _ (by kernel_rfl) | refine r _ _ _ ?_ | omega | (simp [h1, h1_, maxLen] <;> omega)
  refine WK [(0, AV.ptr 0 0), (1, Iz v2)] [(0, .cells [Lz v0, Iz (IntKind.wrap .i64 (v1 + 1))])] 1 (by simp [h1, h1_]) (by simp [h1, h1_]) ?_
  refine SQ [] [none, none, none, none, none, none, none, none, none, none, none, none, none, none] fun _ _ g r => ?_
  obtain ⟨v5, h2, h3, h4, hF⟩ := idx_elim hF
  have h4_ := get_of h4
  try simp at h4_
  have h3_ := h3
  try simp at h3_
  have F1 := And.intro h1 (And.intro h1_ (And.intro h2 (And.intro h3 (And.intro h4 (And.intro h4_ h3_)))))
  try simp [F1]
  and_intros
  try any_goals first | omega | (simp [maxLen, F1] <;> omega)
  obtain ⟨v6, h5, hF⟩ := bnd1_elim hF
  refine AC (w_made_Mod k _ _ _ h5) (.cons (.same (by simp [F1])) (.cons (.same (by simp [F1])) .nil)) ?_
  try simp [F1]
  and_intros <;> first | exact g _ (by kernel_rfl) | refine r _ _ _ ?_ | omega | (simp [maxLen, F1] <;> omega)
  refine WK [(4, Iz v6)] [(0, .cells [Lz v0, Iz (IntKind.wrap .i64 (v1 + 1))])] 1 (by simp [F1]) (by simp [F1]) ?_
  simp only [Option.some.injEq, Prod.mk.injEq] at hF
  obtain ⟨e0, e1⟩ := hF
  subst e0 e1
  refine AW.ret (hQ _ _ _ ?_ (matchO_0 ?_)).1
  ·simp [Try.f21, F1]
  ·simp [F1]
theorem w_made_Dice_Of (k : Nat) (v0 : (List Int)) (v1 : Int) (v2 : (List Int)) (v3 : Int) (v4 : Int) (hF : made_Dice_Of k v0 v1 v2 = some (v3, v4)) :
  FCall Try.prog 22 [AV.ptr 0 0, AV.lst false false (List.map (AV.int .i64) v2)] [.cells [AV.lst false false (List.map (AV.int .i64) v0), AV.int .i64 v1]] (AV.int .i64 v3) [some (.cells [AV.lst false false (List.map (AV.int .i64) v0), AV.int .i64 v4])] := by
 unfold made_Dice_Of at hF
 refine EN Try.func22 ?_
 intro c0 w0 Q h0 hQ
 refine WK [(0, AV.ptr 0 0), (1, Lz v2)] [(0, .cells [Lz v0, Iz v1])] 1 (by simp) (by simp) ?_
 refine SQ [] [none] fun _ _ g r => ?_
 try simp
 and_intros <;> first | exact g _ (by kernel_rfl) | refine r _ _ _ ?_ | omega | (simp [maxLen] <;> omega)
 refine WK [(0, AV.ptr 0 0), (1, Lz v2)] [(0, .cells [Lz v0, Iz v1])] 1 (by simp) (by simp) ?_
 refine SQ [] [none, none, none, none, none, none, none, none] fun _ _ g r => ?_
 try simp
 and_intros
 try any_goals first | omega | (simp [maxLen] <;> omega)
 obtain ⟨v5, v6, h1, hF⟩ := bnd2_elim hF
 refine aCall_l (w_made_Dice_Next k _ _ _ _ _ h1) (by simp) [0] [] [0] rfl (.cons (.same (by simp)) (.cons (.same (by simp)) .nil)) (by simp) (by decide) (by simp) (by simp) (.inl rfl) (by simp) (by simp) ?_
 obtain ⟨v7, h2, h3, h4, hF⟩ := idx_elim hF
 have h4_ := get_of h4
 try simp at h4_
 have h3_ := h3
 try simp at h3_
 have F1 := And.intro h2 (And.intro h3 (And.intro h4 (And.intro h4_ h3_)))
 try simp [F1]
 and_intros <;> first | exact g _ (by kernel_rfl) | refine r _ _ _ ?_ | omega | (simp [maxLen, F1] <;> omega)
 refine WK [(4, Iz v7)] [(0, .cells [Lz v0, Iz v6])] 1 (by simp [F1]) (by simp [F1]) ?_
 simp only [Option.some.injEq, Prod.mk.injEq] at hF
 obtain ⟨e0, e1⟩ := hF
 subst e0 e1
 refine AW.ret (hQ _ _ _ ?_ (matchO_0 ?_)).1
 ·simp [Try.f22, F1]
 ·simp [F1]
theorem w_made_Dice_Network (k : Nat) (v0 : (List Int)) (v1 : Int) (v2 : Int) (v3 : (List api_Arc)) (v4 : Int) (hF : made_Dice_Network k v0 v1 = some (v2, v3, v4)) :
  FCall Try.prog 18 [AV.ptr 0 0] [.cells [AV.lst false false (List.map (AV.int .i64) v0), AV.int .i64 v1]] (AV.agg [AV.int .i64 v2, AV.lst false false (List.map api_Arc.av v3)]) [some (.cells [AV.lst false false (List.map (AV.int .i64) v0), AV.int .i64 v4])] := by
 unfold made_Dice_Network at hF
 refine EN Try.func18 ?_
 intro c0 w0 Q h0 hQ
 refine WK [(0, AV.ptr 0 0)] [(0, .cells [Lz v0, Iz v1])] 1 (by simp) (by simp) ?_
 refine SQ [] [none] fun _ _ g r => ?_
 try simp
 and_intros <;> first | exact g _ (by kernel_rfl) | refine r _ _ _ ?_ | omega | (simp [maxLen] <;> omega)
 refine WK [(0, AV.ptr 0 0), (2, AV.ptr 1 0)] [(0, .cells [Lz v0, Iz v1]), (1, .cells [Iz 0, AV.lst true true (List.map api_Arc.av ([] : List api_Arc))])] 2 (by simp) (by simp) ?_
 refine SQ [] [none, none, none, none, none, none] fun _ _ g r => ?_
 try simp
 and_intros
 try any_goals first | omega | (simp [maxLen] <;> omega)
 obtain ⟨v5, v6, h1, hF⟩ := bnd2_elim hF
 refine aCall_l (w_made_Dice_Next k _ _ _ _ _ h1) (by simp) [0] [] [0] rfl (.cons (.same (by simp)) (.cons (.same (by simp)) .nil)) (by simp) (by decide) (by simp) (by simp) (.inl rfl) (by simp) (by simp) ?_
 try simp
 and_intros <;> first | exact g _ (by kernel_rfl) | refine r _ _ _ ?_ | omega | (simp [maxLen] <;> omega)
 refine WK [(0, AV.ptr 0 0), (2, AV.ptr 1 0), (3, AV.ptr 2 0)] [(0, .cells [Lz v0, Iz v6]), (1, .cells [Iz 0, AV.lst true true (List.map api_Arc.av ([] : List api_Arc))]), (2, .cells [Iz (IntKind.wrap .i64 (2 + v5)), AV.lst true true (List.map api_Arc.av ([] : List api_Arc))])] 3 (by simp) (by simp) ?_
 refine AW.seq fun K385 hK385 => ?_
 refine SQ [] [none, none, none] fun _ _ g r => ?_
 try simp
 and_intros
 try any_goals first | omega | (simp [maxLen] <;> omega)
 obtain ⟨v7, v8, h2, hF⟩ := bnd2_elim hF
 refine aCall_l (w_made_Dice_Next k _ _ _ _ _ h2) (by simp) [0] [] [0] rfl (.cons (.same (by simp)) (.cons (.same (by simp)) .nil)) (by simp) (by decide) (by simp) (by simp) (.inl rfl) (by simp) (by simp) ?_
 try simp
 and_intros <;> first | exact g _ (by kernel_rfl) | refine r _ _ _ ?_ | omega | (simp [maxLen] <;> omega)
 refine WK [(0, AV.ptr 0 0), (2, AV.ptr 1 0), (3, AV.ptr 2 0), (4, Iz v7)] [(0, .cells [Lz v0, Iz v8]), (1, .cells [Iz 0, AV.lst true true (List.map api_Arc.av ([] : List api_Arc))]), (2, .cells [Iz (IntKind.wrap .i64 (2 + v5)), AV.lst true true (List.map api_Arc.av ([] : List api_Arc))])] 3 (by simp) (by simp) ?_
 refine AW.block ?_
 refine AW.ownC 1 1 3 true (cs := [Iz 0, AV.lst true true (List.map api_Arc.av ([] : List api_Arc))]) (by simp) (by simp) ?_
 refine AW.ownC 2 1 3 true (cs := [Iz (IntKind.wrap .i64 (2 + v5)), AV.lst true true (List.map api_Arc.av ([] : List api_Arc))]) (by simp) (by simp) ?_
 refine AW.rnm (m := 1) h0 [(0, 0), (1, 1), (2, 3), (3, 2), (4, 4)] [(0, AV.ptr 0 0), (2, AV.ptr 1 0), (3, AV.ptr 3 0), (4, Iz v7)] [(0, .cells [Lz v0, Iz v8]), (1, .cells [Iz 0, AV.slc 2 0 3 (([] : List api_Arc).length) false]), (2, .grow (flatA (List.map api_Arc.av ([] : List api_Arc)))), (3, .cells [Iz (IntKind.wrap .i64 (2 + v5)), AV.slc 4 0 3 (([] : List api_Arc).length) false]), (4, .grow (flatA (List.map api_Arc.av ([] : List api_Arc))))] 5 (by decide) (by decide) (by decide) rfl (by simp) (by simp) ?_
 refine AW.loopF (α := (Int × Int × (List api_Arc))) (fun n (v9, v10, v11) => made_Dice_Network.L1 k v0 v5 n v9 v10 v11 = some (v2, v3, v4)) (fun (v9, v10, v11) => [(0, AV.ptr 0 0), (2, AV.ptr 1 0), (3, AV.ptr 3 0), (4, Iz v9)]) (fun (v9, v10, v11) => [(0, .cells [Lz v0, Iz v10]), (1, .cells [Iz 0, AV.slc 2 0 3 (([] : List api_Arc).length) false]), (2, .grow (flatA (List.map api_Arc.av ([] : List api_Arc)))), (3, .cells [Iz (IntKind.wrap .i64 (2 + v5)), AV.slc 4 0 3 v11.length false]), (4, .grow (flatA (List.map api_Arc.av v11)))]) 5 k ((v7, v8, ([] : List api_Arc))) hF (by simp) (by simp) (by simp) ?_
 rintro (_|n1) ⟨v9, v10, v11⟩ hF K480 hK480
 ·try dsimp only at hF
  rw [made_Dice_Network.L1] at hF; cases hF
 try dsimp only at hF
 rw [made_Dice_Network.L1] at hF
 refine AW.seq fun K482 hK482 => ?_
 refine SQ [] [none, none] fun _ _ g r => ?_
 try simp
 and_intros <;> first | exact g _ (by kernel_rfl) | refine r _ _ _ ?_ | omega | (simp [maxLen] <;> omega)
 refine WK [(0, AV.ptr 0 0), (2, AV.ptr 1 0), (3, AV.ptr 3 0), (4, Iz v9), (13, AV.bool (decide (0 < v9)))] [(0, .cells [Lz v0, Iz v10]), (1, .cells [Iz 0, AV.slc 2 0 3 (([] : List api_Arc).length) false]), (2, .grow (flatA (List.map api_Arc.av ([] : List api_Arc)))), (3, .cells [Iz (IntKind.wrap .i64 (2 + v5)), AV.slc 4 0 3 v11.length false]), (4, .grow (flatA (List.map api_Arc.av v11)))] 5 (by simp) (by simp) ?_
 by_cases h3 : 0 < v9
 ·replace hF := ite_t h3 hF
  have h3_ := h3
  try simp at h3_
  refine CT (by simp [h3, h3_] <;> omega) ?_
  refine AW.skip ?_
  refine hK482 _ _ _ ?_
  refine AW.midF (α := (Int × (List api_Arc))) (fun (v12, v13) => made_Dice_Network.J2 k v9 (fun v9_ v10_ v11_ => made_Dice_Network.L1 k v0 v5 n1 v9_ v10_ v11_) v12 v13 = some (v2, v3, v4)) (fun (v12, v13) => [(0, AV.ptr 0 0), (2, AV.ptr 1 0), (3, AV.ptr 3 0), (4, Iz v9)]) (fun (v12, v13) => [(0, .cells [Lz v0, Iz v12]), (1, .cells [Iz 0, AV.slc 2 0 3 (([] : List api_Arc).length) false]), (2, .grow (flatA (List.map api_Arc.av ([] : List api_Arc)))), (3, .cells [Iz (IntKind.wrap .i64 (2 + v5)), AV.slc 4 0 3 v13.length false]), (4, .grow (flatA (List.map api_Arc.av v13)))]) 5 (fun K498 hK498 => ?_) ?_
  ·refine AW.block ?_
   refine SQ [] [none, none, none, none, none, none, none, none, none, none, none, none, none, none] fun _ _ g r => ?_
   try simp [h3, h3_]
   and_intros
   try any_goals first | omega | (simp [h3, h3_, maxLen] <;> omega)
   obtain ⟨v14, v15, h4, hF⟩ := bnd2_elim hF
   refine aCall_l (w_made_Dice_Next k _ _ _ _ _ h4) (by simp) [0] [] [0] rfl (.cons (.same (by simp [h3, h3_])) (.cons (.same (by simp [h3, h3_])) .nil)) (by simp [h3, h3_]) (by decide) (by simp) (by simp) (.inl rfl) (by simp) (by simp) ?_
   try simp [h3, h3_]
   and_intros
   try any_goals first | omega | (simp [h3, h3_, maxLen] <;> omega)
   obtain ⟨v16, v17, h5, hF⟩ := bnd2_elim hF
   refine aCall_l (w_made_Dice_Next k _ _ _ _ _ h5) (by simp) [0] [] [0] rfl (.cons (.same (by simp [h3, h3_])) (.cons (.same (by simp [h3, h3_])) .nil)) (by simp [h3, h3_]) (by decide) (by simp) (by simp) (.inl rfl) (by simp) (by simp) ?_
   try simp [h3, h3_]
   and_intros
   try any_goals first | omega | (simp [h3, h3_, maxLen] <;> omega)
   obtain ⟨v18, v19, h6, hF⟩ := bnd2_elim hF
   refine aCall_l (w_made_Dice_Of k _ _ _ _ _ h6) (by simp) [0] [] [0] rfl (.cons (.same (by simp [h3, h3_])) (.cons (Coe.fl (by simp [h3, h3_])) .nil)) (by simp [h3, h3_]) (by decide) (by simp) (by simp) (.inl rfl) (by simp) (by simp) ?_
   try simp [h3, h3_]
   and_intros <;> first | exact g _ (by kernel_rfl) | refine r _ _ _ ?_ | omega | (simp [h3, h3_, maxLen] <;> omega)
   refine WK [(0, AV.ptr 0 0), (2, AV.ptr 1 0), (3, AV.ptr 3 0), (4, Iz v9), (5, AV.ptr 5 0)] [(0, .cells [Lz v0, Iz v19]), (1, .cells [Iz 0, AV.slc 2 0 3 (([] : List api_Arc).length) false]), (2, .grow (flatA (List.map api_Arc.av ([] : List api_Arc)))), (3, .cells [Iz (IntKind.wrap .i64 (2 + v5)), AV.slc 4 0 3 v11.length false]), (4, .grow (flatA (List.map api_Arc.av v11))), (5, .cells [Iz v14, Iz v16, Iz v18])] 6 (by simp [h3, h3_]) (by simp [h3, h3_]) ?_
   refine AW.midF (α := Int) (fun v20 => made_Dice_Network.J3 k v9 v11 v16 v18 v19 (fun v9_ v10_ v11_ => made_Dice_Network.L1 k v0 v5 n1 v9_ v10_ v11_) v20 = some (v2, v3, v4)) (fun v20 => [(0, AV.ptr 0 0), (2, AV.ptr 1 0), (3, AV.ptr 3 0), (4, Iz v9), (5, AV.ptr 5 0)]) (fun v20 => [(0, .cells [Lz v0, Iz v19]), (1, .cells [Iz 0, AV.slc 2 0 3 (([] : List api_Arc).length) false]), (2, .grow (flatA (List.map api_Arc.av ([] : List api_Arc)))), (3, .cells [Iz (IntKind.wrap .i64 (2 + v5)), AV.slc 4 0 3 v11.length false]), (4, .grow (flatA (List.map api_Arc.av v11))), (5, .cells [Iz v20, Iz v16, Iz v18])]) 6 (fun K509 hK509 => ?_) ?_
   ·refine SQ [] [none, none, none] fun _ _ g r => ?_
    try simp [h3, h3_]
    and_intros <;> first | exact g _ (by kernel_rfl) | refine r _ _ _ ?_ | omega | (simp [h3, h3_, maxLen] <;> omega)
    refine WK [(0, AV.ptr 0 0), (2, AV.ptr 1 0), (3, AV.ptr 3 0), (4, Iz v9), (5, AV.ptr 5 0), (30, AV.bool (v14 == 1))] [(0, .cells [Lz v0, Iz v19]), (1, .cells [Iz 0, AV.slc 2 0 3 (([] : List api_Arc).length) false]), (2, .grow (flatA (List.map api_Arc.av ([] : List api_Arc)))), (3, .cells [Iz (IntKind.wrap .i64 (2 + v5)), AV.slc 4 0 3 v11.length false]), (4, .grow (flatA (List.map api_Arc.av v11))), (5, .cells [Iz v14, Iz v16, Iz v18])] 6 (by simp [h3, h3_]) (by simp [h3, h3_]) ?_
    by_cases h10 : v14 = 1
    ·replace hF := ite_t h10 hF
     have h10q : v14 = 1 := h10
     have h10_ := eqb_t h10q
     have h10__ := neb_f h10q
     have F1 := And.intro h3 (And.intro h3_ (And.intro h10_ (And.intro h10__ h10q)))
     refine CT (by simp [F1] <;> omega) ?_
     refine RG [] [none, none] fun _ _ g r => ?_
     try simp [F1]
     and_intros <;> first | exact g _ (by kernel_rfl) | refine r _ _ _ ?_ | omega | (simp [maxLen, F1] <;> omega)
     refine hK509 _ _ _ ?_
     exact JN (0) hF (by simp [F1]) (by simp [F1])
    ·replace hF := ite_f h10 hF
     have h10_ := eqb_f h10
     have h10__ := neb_t h10
     have F2 := And.intro h3 (And.intro h3_ (And.intro h10 (And.intro h10_ h10__)))
     refine CF (by simp [F2] <;> omega) ?_
     refine AW.skip ?_
     refine hK509 _ _ _ ?_
     exact JN (v14) hF (by simp [F2]) (by simp [F2])
   ·rintro v20 hF
    try dsimp only at hF
    unfold made_Dice_Network.J3 at hF
    refine AW.midF (α := Int) (fun v21 => made_Dice_Network.J4 k v9 v11 v18 v19 v20 (fun v9_ v10_ v11_ => made_Dice_Network.L1 k v0 v5 n1 v9_ v10_ v11_) v21 = some (v2, v3, v4)) (fun v21 => [(0, AV.ptr 0 0), (2, AV.ptr 1 0), (3, AV.ptr 3 0), (4, Iz v9), (5, AV.ptr 5 0)]) (fun v21 => [(0, .cells [Lz v0, Iz v19]), (1, .cells [Iz 0, AV.slc 2 0 3 (([] : List api_Arc).length) false]), (2, .grow (flatA (List.map api_Arc.av ([] : List api_Arc)))), (3, .cells [Iz (IntKind.wrap .i64 (2 + v5)), AV.slc 4 0 3 v11.length false]), (4, .grow (flatA (List.map api_Arc.av v11))), (5, .cells [Iz v20, Iz v21, Iz v18])]) 6 (fun K506 hK506 => ?_) ?_
    ·refine SQ [] [none, none, none] fun _ _ g r => ?_
     try simp [h3, h3_]
     and_intros <;> first | exact g _ (by kernel_rfl) | refine r _ _ _ ?_ | omega | (simp [h3, h3_, maxLen] <;> omega)
     refine WK [(0, AV.ptr 0 0), (2, AV.ptr 1 0), (3, AV.ptr 3 0), (4, Iz v9), (5, AV.ptr 5 0), (34, AV.bool (v16 == 0))] [(0, .cells [Lz v0, Iz v19]), (1, .cells [Iz 0, AV.slc 2 0 3 (([] : List api_Arc).length) false]), (2, .grow (flatA (List.map api_Arc.av ([] : List api_Arc)))), (3, .cells [Iz (IntKind.wrap .i64 (2 + v5)), AV.slc 4 0 3 v11.length false]), (4, .grow (flatA (List.map api_Arc.av v11))), (5, .cells [Iz v20, Iz v16, Iz v18])] 6 (by simp [h3, h3_]) (by simp [h3, h3_]) ?_
     by_cases h9 : v16 = 0
     ·replace hF := ite_t h9 hF
      have h9q : v16 = 0 := h9
      have h9_ := eqb_t h9q
      have h9__ := neb_f h9q
      have F3 := And.intro h3 (And.intro h3_ (And.intro h9_ (And.intro h9__ h9q)))
      refine CT (by simp [F3] <;> omega) ?_
      refine RG [] [none, none] fun _ _ g r => ?_
      try simp [F3]
      and_intros <;> first | exact g _ (by kernel_rfl) | refine r _ _ _ ?_ | omega | (simp [maxLen, F3] <;> omega)
      refine hK506 _ _ _ ?_
      exact JN (1) hF (by simp [F3]) (by simp [F3])
     ·replace hF := ite_f h9 hF
      have h9_ := eqb_f h9
      have h9__ := neb_t h9
      have F4 := And.intro h3 (And.intro h3_ (And.intro h9 (And.intro h9_ h9__)))
      refine CF (by simp [F4] <;> omega) ?_
      refine AW.skip ?_
      refine hK506 _ _ _ ?_
      exact JN (v16) hF (by simp [F4]) (by simp [F4])
    ·rintro v21 hF
     try dsimp only at hF
     unfold made_Dice_Network.J4 at hF
     refine SQ [] [none, none, none, none, none] fun _ _ g r => ?_
     try simp [h3, h3_]
     and_intros <;> first | exact g _ (by kernel_rfl) | refine r _ _ _ ?_ | omega | (simp [h3, h3_, maxLen] <;> omega)
     refine WK [(0, AV.ptr 0 0), (2, AV.ptr 1 0), (3, AV.ptr 3 0), (4, Iz v9), (5, AV.ptr 5 0), (40, AV.bool (v20 != v21))] [(0, .cells [Lz v0, Iz v19]), (1, .cells [Iz 0, AV.slc 2 0 3 (([] : List api_Arc).length) false]), (2, .grow (flatA (List.map api_Arc.av ([] : List api_Arc)))), (3, .cells [Iz (IntKind.wrap .i64 (2 + v5)), AV.slc 4 0 3 v11.length false]), (4, .grow (flatA (List.map api_Arc.av v11))), (5, .cells [Iz v20, Iz v21, Iz v18])] 6 (by simp [h3, h3_]) (by simp [h3, h3_]) ?_
     by_cases h7 : v20 ≠ v21
     ·replace hF := ite_t h7 hF
      have h7_ := eqb_f h7
      have h7__ := neb_t h7
      refine CT (by simp [h3, h3_, h7, h7_, h7__] <;> omega) ?_
      refine RG [] [none, none, none, none, none, none, none] fun _ _ g r => ?_
      obtain ⟨h8, hF⟩ := chk_elim hF
      have h8_ := h8
      try simp at h8_
      have F5 := And.intro h3 (And.intro h3_ (And.intro h7 (And.intro h7_ (And.intro h7__ h8))))
      try simp [F5]
      and_intros <;> first | exact g _ (by kernel_rfl) | refine r _ _ _ ?_ | omega | (simp [maxLen, F5] <;> omega)
      refine hK498 _ _ _ ?_
      refine Can.weak [(0, AV.ptr 0 0), (2, AV.ptr 1 0), (3, AV.ptr 3 0), (4, Iz v9)] [(0, .cells [Lz v0, Iz v19]), (1, .cells [Iz 0, AV.slc 2 0 3 (([] : List api_Arc).length) false]), (2, .grow (flatA (List.map api_Arc.av ([] : List api_Arc)))), (3, .cells [Iz (IntKind.wrap .i64 (2 + v5)), AV.slc 6 0 3 ((v11 ++ ([(api_Arc.mk v20 v21 v18)] : List api_Arc)).length) false]), (6, .grow (flatA (List.map api_Arc.av (v11 ++ ([(api_Arc.mk v20 v21 v18)] : List api_Arc)))))] 7 (by simp [F5]) (by simp [F5] <;> omega) (by simp) ?_
      refine Can.ren (m := 1) h0 [(0, 0), (1, 1), (2, 2), (3, 3), (4, 6)] [(0, AV.ptr 0 0), (2, AV.ptr 1 0), (3, AV.ptr 3 0), (4, Iz v9)] [(0, .cells [Lz v0, Iz v19]), (1, .cells [Iz 0, AV.slc 2 0 3 (([] : List api_Arc).length) false]), (2, .grow (flatA (List.map api_Arc.av ([] : List api_Arc)))), (3, .cells [Iz (IntKind.wrap .i64 (2 + v5)), AV.slc 4 0 3 ((v11 ++ ([(api_Arc.mk v20 v21 v18)] : List api_Arc)).length) false]), (4, .grow (flatA (List.map api_Arc.av (v11 ++ ([(api_Arc.mk v20 v21 v18)] : List api_Arc)))))] 5 (by decide) (by decide) (by decide) rfl (by simp [F5]) (by simp [F5]) ?_
      exact JN ((v19, v11 ++ ([(api_Arc.mk v20 v21 v18)] : List api_Arc))) hF (by simp [F5]) (by simp [F5])
     ·replace hF := ite_f h7 hF
      have h7q : v20 = v21 := Classical.not_not.1 h7
      have h7_ := eqb_t h7q
      have h7__ := neb_f h7q
      have F6 := And.intro h3 (And.intro h3_ (And.intro h7_ h7__))
      refine CF (by simp [F6] <;> omega) ?_
      refine AW.skip ?_
      refine hK498 _ _ _ ?_
      refine Can.ren (m := 1) h0 [(0, 0), (1, 1), (2, 2), (3, 3), (4, 4)] [(0, AV.ptr 0 0), (2, AV.ptr 1 0), (3, AV.ptr 3 0), (4, Iz v9)] [(0, .cells [Lz v0, Iz v19]), (1, .cells [Iz 0, AV.slc 2 0 3 (([] : List api_Arc).length) false]), (2, .grow (flatA (List.map api_Arc.av ([] : List api_Arc)))), (3, .cells [Iz (IntKind.wrap .i64 (2 + v5)), AV.slc 4 0 3 v11.length false]), (4, .grow (flatA (List.map api_Arc.av v11)))] 5 (by decide) (by decide) (by decide) rfl (by simp [F6]) (by simp [F6]) ?_
      exact JN ((v19, v11)) hF (by simp [F6]) (by simp [F6])
  ·rintro ⟨v12, v13⟩ hF
   try dsimp only at hF
   unfold made_Dice_Network.J2 at hF
   refine RG [] [none, none, none] fun _ _ g r => ?_
   try simp [h3, h3_]
   and_intros <;> first | exact g _ (by kernel_rfl) | refine r _ _ _ ?_ | omega | (simp [h3, h3_, maxLen] <;> omega)
   refine hK480 _ _ _ ?_
   exact NX (k' := n1) ((IntKind.wrap .i64 (v9 - 1), v12, v13)) hF (by simp [h3, h3_]) (by simp [h3, h3_])
 ·replace hF := ite_f h3 hF
  have h3_ := h3
  try simp at h3_
  refine CF (by simp [h3, h3_] <;> omega) ?_
  refine AW.exit ?_
  try simp
  refine hK385 _ _ _ ?_
  refine SQ [] [none, none] fun _ _ g r => ?_
  try simp [h3, h3_]
  and_intros <;> first | exact g _ (by kernel_rfl) | refine r _ _ _ ?_ | omega | (simp [h3, h3_, maxLen] <;> omega)
  refine WK [(2, AV.ptr 1 0)] [(0, .cells [Lz v0, Iz v10]), (1, .cells [Iz (IntKind.wrap .i64 (2 + v5)), AV.slc 4 0 3 v11.length false]), (4, .grow (flatA (List.map api_Arc.av v11)))] 5 (by simp [h3, h3_]) (by simp [h3, h3_]) ?_
  refine WK [(2, AV.ptr 1 0)] [(0, .cells [Lz v0, Iz v10]), (1, .cells [Iz (IntKind.wrap .i64 (2 + v5)), AV.slc 4 0 3 v11.length false]), (4, .grow (flatA (List.map api_Arc.av v11)))] 5 (by simp [h3, h3_]) (by simp [h3, h3_]) ?_
  refine AW.frz 4 (o := .grow (flatA (List.map api_Arc.av v11))) (by simp [h3, h3_]) rfl [] [(1, .cells [Iz (IntKind.wrap .i64 (2 + v5)), AV.lst false false (List.map api_Arc.av v11)])] trivial ⟨⟨by simp, AObj.cells [Iz (IntKind.wrap .i64 (2 + v5)), AV.slc 4 0 3 v11.length false], by simp [h3, h3_], (.mk (.cons (.same _) (.cons (.l (by simp) (by simp) (by simp) (by simp)) .nil)))⟩, trivial⟩ ?_
  simp only [Option.some.injEq, Prod.mk.injEq] at hF
  obtain ⟨e0, e1, e2⟩ := hF
  subst e0 e1 e2
  refine AW.ret (hQ _ _ _ ?_ (matchO_0 ?_)).1
  ·simp [Try.f18, h3, h3_]
  ·simp [h3, h3_]
theorem w_ref15_Check (k : Nat) (v0 : Int) (v1 : (List api_Arc)) (v2 : Int) (hF : ref15_Check k v0 v1 = some v2) :
  FCall Try.prog 13 [AV.agg [AV.int .i64 v0, AV.lst false false (List.map api_Arc.av v1)]] [] (AV.int .i64 v2) [] := by
 unfold ref15_Check at hF
 refine EN Try.func13 ?_
 intro c0 w0 Q h0 hQ
 refine WK [(0, AV.agg [Iz v0, AV.lst false false (List.map api_Arc.av v1)])] [] 0 (by simp) (by simp) ?_
 refine SQ [] [none, none] fun _ _ g r => ?_
 try simp
 and_intros <;> first | exact g _ (by kernel_rfl) | refine r _ _ _ ?_ | omega | (simp [maxLen] <;> omega)
 refine WK [(1, AV.ptr 0 0)] [(0, .cells [Iz v0, AV.lst false false (List.map api_Arc.av v1)])] 1 (by simp) (by simp) ?_
 refine AW.seq fun K238 hK238 => ?_
 refine SQ [] [none, none, none, none, some (8, false), some (8, false), some (8, false), none, none, some (13, false), some (13, false), some (13, false), some (13, false), none] fun _ _ g r => ?_
 by_cases h1 : v0 < 2
 ·replace hF := ite_t h1 hF
  have h1_ := h1
  try simp at h1_
  try simp [h1, h1_]
  and_intros <;> first | exact g _ (by kernel_rfl) | refine r _ _ _ ?_ | omega | (simp [h1, h1_, maxLen] <;> omega)
  refine WK [(1, AV.ptr 0 0), (18, AV.bool true)] [(0, .cells [Iz v0, AV.lst false false (List.map api_Arc.av v1)])] 1 (by simp [h1, h1_]) (by simp [h1, h1_]) ?_
  refine CT (by simp [h1, h1_]) ?_
  refine SQ [] [none] fun _ _ g r => ?_
  try simp [h1, h1_]
  and_intros <;> first | exact g _ (by kernel_rfl) | refine r _ _ _ ?_ | omega | (simp [h1, h1_, maxLen] <;> omega)
  refine WK [(2, Iz 16)] [] 1 (by simp [h1, h1_]) (by simp [h1, h1_]) ?_
  simp only [Option.some.injEq] at hF
  subst hF
  refine AW.ret (hQ _ _ _ ?_ (matchO_0 ?_)).1
  ·simp [Try.f13, h1, h1_]
  ·simp [h1, h1_]
 ·replace hF := ite_f h1 hF
  have h1_ := h1
  try simp at h1_
  by_cases h2 : 130 < v0
  ·replace hF := ite_t h2 hF
   have h2_ := h2
   try simp at h2_
   have F1 := And.intro h1 (And.intro h1_ (And.intro h2 h2_))
   try simp [F1]
   and_intros <;> first | exact g _ (by kernel_rfl) | refine r _ _ _ ?_ | omega | (simp [maxLen, F1] <;> omega)
   refine WK [(1, AV.ptr 0 0), (18, AV.bool true)] [(0, .cells [Iz v0, AV.lst false false (List.map api_Arc.av v1)])] 1 (by simp [F1]) (by simp [F1]) ?_
   refine CT (by simp [F1]) ?_
   refine SQ [] [none] fun _ _ g r => ?_
   try simp [F1]
   and_intros <;> first | exact g _ (by kernel_rfl) | refine r _ _ _ ?_ | omega | (simp [maxLen, F1] <;> omega)
   refine WK [(2, Iz 16)] [] 1 (by simp [F1]) (by simp [F1]) ?_
   simp only [Option.some.injEq] at hF
   subst hF
   refine AW.ret (hQ _ _ _ ?_ (matchO_0 ?_)).1
   ·simp [Try.f13, F1]
   ·simp [F1]
  ·replace hF := ite_f h2 hF
   have h2_ := h2
   try simp at h2_
   have F2 := And.intro h1 (And.intro h1_ (And.intro h2 h2_))
   try simp [F2]
   and_intros <;> first | exact g _ (by kernel_rfl) | refine r _ _ _ ?_ | omega | (simp [maxLen, F2] <;> omega)
   refine WK [(1, AV.ptr 0 0), (18, AV.bool (decide (1200 < (v1.length : Int))))] [(0, .cells [Iz v0, AV.lst false false (List.map api_Arc.av v1)])] 1 (by simp [F2]) (by simp [F2]) ?_
   by_cases h3 : 1200 < (v1.length : Int)
   ·replace hF := ite_t h3 hF
    have h3_ := h3
    try simp at h3_
    have F3 := And.intro F2 (And.intro h3 h3_)
    refine CT (by simp [F3] <;> omega) ?_
    refine SQ [] [none] fun _ _ g r => ?_
    try simp [F3]
    and_intros <;> first | exact g _ (by kernel_rfl) | refine r _ _ _ ?_ | omega | (simp [maxLen, F3] <;> omega)
    refine WK [(2, Iz 16)] [] 1 (by simp [F3]) (by simp [F3]) ?_
    simp only [Option.some.injEq] at hF
    subst hF
    refine AW.ret (hQ _ _ _ ?_ (matchO_0 ?_)).1
    ·simp [Try.f13, F3]
    ·simp [F3]
   ·replace hF := ite_f h3 hF
    have h3_ := h3
    try simp at h3_
    have F4 := And.intro F2 (And.intro h3 h3_)
    refine CF (by simp [F4] <;> omega) ?_
    refine AW.skip ?_
    refine hK238 _ _ _ ?_
    refine AW.seq fun K353 hK353 => ?_
    refine SQ [] [none] fun _ _ g r => ?_
    try simp [F4]
    and_intros <;> first | exact g _ (by kernel_rfl) | refine r _ _ _ ?_ | omega | (simp [maxLen, F4] <;> omega)
    refine WK [(1, AV.ptr 0 0), (3, Iz 0)] [(0, .cells [Iz v0, AV.lst false false (List.map api_Arc.av v1)])] 1 (by simp [F4]) (by simp [F4]) ?_
    refine AW.block ?_
    refine AW.loopF (α := Int) (fun n v3 => ref15_Check.L1 k v0 v1 n v3 = some v2) (fun v3 => [(1, AV.ptr 0 0), (3, Iz v3)]) (fun v3 => [(0, .cells [Iz v0, AV.lst false false (List.map api_Arc.av v1)])]) 1 k (0) hF (by simp [F4]) (by simp [F4]) (by simp) ?_
    rintro (_|n1) v3 hF K436 hK436
    ·try dsimp only at hF
     rw [ref15_Check.L1] at hF; cases hF
    try dsimp only at hF
    rw [ref15_Check.L1] at hF
    refine AW.seq fun K438 hK438 => ?_
    refine SQ [] [none, none, none, none, none] fun _ _ g r => ?_
    try simp [F4]
    and_intros <;> first | exact g _ (by kernel_rfl) | refine r _ _ _ ?_ | omega | (simp [maxLen, F4] <;> omega)
    refine WK [(1, AV.ptr 0 0), (3, Iz v3), (23, AV.bool (decide (v3 < (v1.length : Int))))] [(0, .cells [Iz v0, AV.lst false false (List.map api_Arc.av v1)])] 1 (by simp [F4]) (by simp [F4]) ?_
    by_cases h4 : v3 < (v1.length : Int)
    ·replace hF := ite_t h4 hF
     have h4_ := h4
     try simp at h4_
     have F5 := And.intro F4 (And.intro h4 h4_)
     refine CT (by simp [F5] <;> omega) ?_
     refine AW.skip ?_
     refine hK438 _ _ _ ?_
     refine AW.seq fun K451 hK451 => ?_
     refine AW.block ?_
     refine SQ [] [none, none, none, none, none, none, none] fun _ _ g r => ?_
     obtain ⟨v4, h5, h6, h7, hF⟩ := idx_elim hF
     have h7_ := get_of h7
     try simp at h7_
     have h6_ := h6
     try simp at h6_
     have F6 := And.intro F5 (And.intro h5 (And.intro h6 (And.intro h7 (And.intro h7_ h6_))))
     try simp [F6]
     and_intros <;> first | exact g _ (by kernel_rfl) | refine r _ _ _ ?_ | omega | (simp [maxLen, F6] <;> omega)
     refine WK [(1, AV.ptr 0 0), (3, Iz v3), (4, AV.ptr 1 0)] [(0, .cells [Iz v0, AV.lst false false (List.map api_Arc.av v1)]), (1, .cells [Iz v4.From, Iz v4.To, Iz v4.Cap])] 2 (by simp [F6]) (by simp [F6]) ?_
     refine SQ [] [none, none, none, none, some (34, false), some (34, false), some (34, false), some (34, false), some (34, false), none, none, some (41, false), some (41, false), some (41, false), none, none, some (46, false), some (46, false), some (46, false), some (46, false), some (46, false), none, none, some (53, false), some (53, false), some (53, false), some (53, false), some (53, false), none, none, some (60, false), some (60, false), some (60, false), none, none, some (65, false), some (65, false), some (65, false), none, none, some (70, false), some (70, false), some (70, false), none, none, some (75, false), some (75, false), some (75, false), none] fun _ _ g r => ?_
     by_cases h8 : v4.From < 0
     ·replace hF := ite_t h8 hF
      have h8_ := h8
      try simp at h8_
      have F7 := And.intro F6 (And.intro h8 h8_)
      try simp [F7]
      and_intros <;> first | exact g _ (by kernel_rfl) | refine r _ _ _ ?_ | omega | (simp [maxLen, F7] <;> omega)
      refine WK [(1, AV.ptr 0 0), (3, Iz v3), (79, AV.bool true)] [(0, .cells [Iz v0, AV.lst false false (List.map api_Arc.av v1)])] 2 (by simp [F7]) (by simp [F7]) ?_
      refine CT (by simp [F7]) ?_
      refine SQ [] [none] fun _ _ g r => ?_
      try simp [F7]
      and_intros <;> first | exact g _ (by kernel_rfl) | refine r _ _ _ ?_ | omega | (simp [maxLen, F7] <;> omega)
      refine WK [(2, Iz 16)] [] 2 (by simp [F7]) (by simp [F7]) ?_
      simp only [Option.some.injEq] at hF
      subst hF
      refine AW.ret (hQ _ _ _ ?_ (matchO_0 ?_)).1
      ·simp [Try.f13, F7]
      ·simp [F7]
     ·replace hF := ite_f h8 hF
      have h8_ := h8
      try simp at h8_
      by_cases h9 : v0 ≤ v4.From
      ·replace hF := ite_t h9 hF
       have h9_ := h9
       try simp at h9_
       have F8 := And.intro F6 (And.intro h8 (And.intro h8_ (And.intro h9 h9_)))
       try simp [F8]
       and_intros <;> first | exact g _ (by kernel_rfl) | refine r _ _ _ ?_ | omega | (simp [maxLen, F8] <;> omega)
       refine WK [(1, AV.ptr 0 0), (3, Iz v3), (79, AV.bool true)] [(0, .cells [Iz v0, AV.lst false false (List.map api_Arc.av v1)])] 2 (by simp [F8]) (by simp [F8]) ?_
       refine CT (by simp [F8]) ?_
       refine SQ [] [none] fun _ _ g r => ?_
       try simp [F8]
       and_intros <;> first | exact g _ (by kernel_rfl) | refine r _ _ _ ?_ | omega | (simp [maxLen, F8] <;> omega)
       refine WK [(2, Iz 16)] [] 2 (by simp [F8]) (by simp [F8]) ?_
       simp only [Option.some.injEq] at hF
       subst hF
       refine AW.ret (hQ _ _ _ ?_ (matchO_0 ?_)).1
       ·simp [Try.f13, F8]
       ·simp [F8]
      ·replace hF := ite_f h9 hF
       have h9_ := h9
       try simp at h9_
       by_cases h10 : v4.To < 0
       ·replace hF := ite_t h10 hF
        have h10_ := h10
        try simp at h10_
        have F9 := And.intro F6 (And.intro h8 (And.intro h8_ (And.intro h9 (And.intro h9_ (And.intro h10 h10_)))))
        try simp [F9]
        and_intros <;> first | exact g _ (by kernel_rfl) | refine r _ _ _ ?_ | omega | (simp [maxLen, F9] <;> omega)
        refine WK [(1, AV.ptr 0 0), (3, Iz v3), (79, AV.bool true)] [(0, .cells [Iz v0, AV.lst false false (List.map api_Arc.av v1)])] 2 (by simp [F9]) (by simp [F9]) ?_
        refine CT (by simp [F9]) ?_
        refine SQ [] [none] fun _ _ g r => ?_
        try simp [F9]
        and_intros <;> first | exact g _ (by kernel_rfl) | refine r _ _ _ ?_ | omega | (simp [maxLen, F9] <;> omega)
        refine WK [(2, Iz 16)] [] 2 (by simp [F9]) (by simp [F9]) ?_
        simp only [Option.some.injEq] at hF
        subst hF
        refine AW.ret (hQ _ _ _ ?_ (matchO_0 ?_)).1
        ·simp [Try.f13, F9]
        ·simp [F9]
       ·replace hF := ite_f h10 hF
        have h10_ := h10
        try simp at h10_
        by_cases h11 : v0 ≤ v4.To
        ·replace hF := ite_t h11 hF
         have h11_ := h11
         try simp at h11_
         have F10 := And.intro F6 (And.intro h8 (And.intro h8_ (And.intro h9 (And.intro h9_ (And.intro h10 (And.intro h10_ (And.intro h11 h11_)))))))
         try simp [F10]
         and_intros <;> first | exact g _ (by kernel_rfl) | refine r _ _ _ ?_ | omega | (simp [maxLen, F10] <;> omega)
         refine WK [(1, AV.ptr 0 0), (3, Iz v3), (79, AV.bool true)] [(0, .cells [Iz v0, AV.lst false false (List.map api_Arc.av v1)])] 2 (by simp [F10]) (by simp [F10]) ?_
         refine CT (by simp [F10]) ?_
         refine SQ [] [none] fun _ _ g r => ?_
         try simp [F10]
         and_intros <;> first | exact g _ (by kernel_rfl) | refine r _ _ _ ?_ | omega | (simp [maxLen, F10] <;> omega)
         refine WK [(2, Iz 16)] [] 2 (by simp [F10]) (by simp [F10]) ?_
         simp only [Option.some.injEq] at hF
         subst hF
         refine AW.ret (hQ _ _ _ ?_ (matchO_0 ?_)).1
         ·simp [Try.f13, F10]
         ·simp [F10]
        ·replace hF := ite_f h11 hF
         have h11_ := h11
         try simp at h11_
         by_cases h12 : v4.From = v4.To
         ·replace hF := ite_t h12 hF
          have h12q : v4.From = v4.To := h12
          have h12_ := eqb_t h12q
          have h12__ := neb_f h12q
          have F11 := And.intro F6 (And.intro h8 (And.intro h8_ (And.intro h9 (And.intro h9_ (And.intro h10 (And.intro h10_ (And.intro h11 (And.intro h11_ (And.intro h12_ h12__)))))))))
          try simp [F11]
          and_intros <;> first | exact g _ (by kernel_rfl) | refine r _ _ _ ?_ | omega | (simp [maxLen, F11] <;> omega)
          refine WK [(1, AV.ptr 0 0), (3, Iz v3), (79, AV.bool true)] [(0, .cells [Iz v0, AV.lst false false (List.map api_Arc.av v1)])] 2 (by simp [F11]) (by simp [F11]) ?_
          refine CT (by simp [F11]) ?_
          refine SQ [] [none] fun _ _ g r => ?_
          try simp [F11]
          and_intros <;> first | exact g _ (by kernel_rfl) | refine r _ _ _ ?_ | omega | (simp [maxLen, F11] <;> omega)
          refine WK [(2, Iz 16)] [] 2 (by simp [F11]) (by simp [F11]) ?_
          simp only [Option.some.injEq] at hF
          subst hF
          refine AW.ret (hQ _ _ _ ?_ (matchO_0 ?_)).1
          ·simp [Try.f13, F11]
          ·simp [F11]
         ·replace hF := ite_f h12 hF
          have h12_ := eqb_f h12
          have h12__ := neb_t h12
          by_cases h13 : v4.To = 0
          ·replace hF := ite_t h13 hF
           have h13q : v4.To = 0 := h13
           have h13_ := eqb_t h13q
           have h13__ := neb_f h13q
           have h13_h10 := h10
           rw [h13q] at h13_h10
           have h13_h11 := h11
           rw [h13q] at h13_h11
           have h13__h12 := h12_
           rw [h13q] at h13__h12
           have h13___h12 := h12__
           rw [h13q] at h13___h12
           have F12 := And.intro F6 (And.intro h8 (And.intro h8_ (And.intro h9 (And.intro h9_ (And.intro h10 (And.intro h10_ (And.intro h11 (And.intro h11_ (And.intro h12 (And.intro h12_ (And.intro h12__ (And.intro h13_ (And.intro h13__ (And.intro h13q (And.intro h13_h10 (And.intro h13_h11 (And.intro h13__h12 h13___h12)))))))))))))))))
           try simp [F12]
           and_intros <;> first | exact g _ (by kernel_rfl) | refine r _ _ _ ?_ | omega | (simp [maxLen, F12] <;> omega)
           refine WK [(1, AV.ptr 0 0), (3, Iz v3), (79, AV.bool true)] [(0, .cells [Iz v0, AV.lst false false (List.map api_Arc.av v1)])] 2 (by simp [F12]) (by simp [F12]) ?_
           refine CT (by simp [F12]) ?_
           refine SQ [] [none] fun _ _ g r => ?_
           try simp [F12]
           and_intros <;> first | exact g _ (by kernel_rfl) | refine r _ _ _ ?_ | omega | (simp [maxLen, F12] <;> omega)
           refine WK [(2, Iz 16)] [] 2 (by simp [F12]) (by simp [F12]) ?_
           simp only [Option.some.injEq] at hF
           subst hF
           refine AW.ret (hQ _ _ _ ?_ (matchO_0 ?_)).1
           ·simp [Try.f13, F12]
           ·simp [F12]
          ·replace hF := ite_f h13 hF
           have h13_ := eqb_f h13
           have h13__ := neb_t h13
           by_cases h14 : v4.From = 1
           ·replace hF := ite_t h14 hF
            have h14q : v4.From = 1 := h14
            have h14_ := eqb_t h14q
            have h14__ := neb_f h14q
            have h14_h8 := h8
            rw [h14q] at h14_h8
            have h14_h9 := h9
            rw [h14q] at h14_h9
            have h14__h12 := h12_
            rw [h14q] at h14__h12
            have h14___h12 := h12__
            rw [h14q] at h14___h12
            have F13 := And.intro F6 (And.intro h8 (And.intro h8_ (And.intro h9 (And.intro h9_ (And.intro h10 (And.intro h10_ (And.intro h11 (And.intro h11_ (And.intro h12 (And.intro h12_ (And.intro h12__ (And.intro h13 (And.intro h13_ (And.intro h13__ (And.intro h14_ (And.intro h14__ (And.intro h14q (And.intro h14_h8 (And.intro h14_h9 (And.intro h14__h12 h14___h12))))))))))))))))))))
            try simp [F13]
            and_intros <;> first | exact g _ (by kernel_rfl) | refine r _ _ _ ?_ | omega | (simp [maxLen, F13] <;> omega)
            refine WK [(1, AV.ptr 0 0), (3, Iz v3), (79, AV.bool true)] [(0, .cells [Iz v0, AV.lst false false (List.map api_Arc.av v1)])] 2 (by simp [F13]) (by simp [F13]) ?_
            refine CT (by simp [F13]) ?_
            refine SQ [] [none] fun _ _ g r => ?_
            try simp [F13]
            and_intros <;> first | exact g _ (by kernel_rfl) | refine r _ _ _ ?_ | omega | (simp [maxLen, F13] <;> omega)
            refine WK [(2, Iz 16)] [] 2 (by simp [F13]) (by simp [F13]) ?_
            simp only [Option.some.injEq] at hF
            subst hF
            refine AW.ret (hQ _ _ _ ?_ (matchO_0 ?_)).1
            ·simp [Try.f13, F13]
            ·simp [F13]
           ·replace hF := ite_f h14 hF
            have h14_ := eqb_f h14
            have h14__ := neb_t h14
            by_cases h15 : v4.Cap < 0
            ·replace hF := ite_t h15 hF
             have h15_ := h15
             try simp at h15_
             have F14 := And.intro F6 (And.intro h8 (And.intro h8_ (And.intro h9 (And.intro h9_ (And.intro h10 (And.intro h10_ (And.intro h11 (And.intro h11_ (And.intro h12 (And.intro h12_ (And.intro h12__ (And.intro h13 (And.intro h13_ (And.intro h13__ (And.intro h14 (And.intro h14_ (And.intro h14__ (And.intro h15 h15_))))))))))))))))))
             try simp [F14]
             and_intros <;> first | exact g _ (by kernel_rfl) | refine r _ _ _ ?_ | omega | (simp [maxLen, F14] <;> omega)
             refine WK [(1, AV.ptr 0 0), (3, Iz v3), (79, AV.bool true)] [(0, .cells [Iz v0, AV.lst false false (List.map api_Arc.av v1)])] 2 (by simp [F14]) (by simp [F14]) ?_
             refine CT (by simp [F14]) ?_
             refine SQ [] [none] fun _ _ g r => ?_
             try simp [F14]
             and_intros <;> first | exact g _ (by kernel_rfl) | refine r _ _ _ ?_ | omega | (simp [maxLen, F14] <;> omega)
             refine WK [(2, Iz 16)] [] 2 (by simp [F14]) (by simp [F14]) ?_
             simp only [Option.some.injEq] at hF
             subst hF
             refine AW.ret (hQ _ _ _ ?_ (matchO_0 ?_)).1
             ·simp [Try.f13, F14]
             ·simp [F14]
            ·replace hF := ite_f h15 hF
             have h15_ := h15
             try simp at h15_
             have F15 := And.intro F6 (And.intro h8 (And.intro h8_ (And.intro h9 (And.intro h9_ (And.intro h10 (And.intro h10_ (And.intro h11 (And.intro h11_ (And.intro h12 (And.intro h12_ (And.intro h12__ (And.intro h13 (And.intro h13_ (And.intro h13__ (And.intro h14 (And.intro h14_ (And.intro h14__ (And.intro h15 h15_))))))))))))))))))
             try simp [F15]
             and_intros <;> first | exact g _ (by kernel_rfl) | refine r _ _ _ ?_ | omega | (simp [maxLen, F15] <;> omega)
             refine WK [(1, AV.ptr 0 0), (3, Iz v3), (79, AV.bool (decide (1048576 < v4.Cap)))] [(0, .cells [Iz v0, AV.lst false false (List.map api_Arc.av v1)])] 2 (by simp [F15]) (by simp [F15]) ?_
             by_cases h16 : 1048576 < v4.Cap
             ·replace hF := ite_t h16 hF
              have h16_ := h16
              try simp at h16_
              have F16 := And.intro F15 (And.intro h16 h16_)
              refine CT (by simp [F16] <;> omega) ?_
              refine SQ [] [none] fun _ _ g r => ?_
              try simp [F16]
              and_intros <;> first | exact g _ (by kernel_rfl) | refine r _ _ _ ?_ | omega | (simp [maxLen, F16] <;> omega)
              refine WK [(2, Iz 16)] [] 2 (by simp [F16]) (by simp [F16]) ?_
              simp only [Option.some.injEq] at hF
              subst hF
              refine AW.ret (hQ _ _ _ ?_ (matchO_0 ?_)).1
              ·simp [Try.f13, F16]
              ·simp [F16]
             ·replace hF := ite_f h16 hF
              have h16_ := h16
              try simp at h16_
              have F17 := And.intro F15 (And.intro h16 h16_)
              refine CF (by simp [F17] <;> omega) ?_
              refine AW.skip ?_
              refine hK451 _ _ _ ?_
              refine RG [] [none, none, none] fun _ _ g r => ?_
              try simp [F17]
              and_intros <;> first | exact g _ (by kernel_rfl) | refine r _ _ _ ?_ | omega | (simp [maxLen, F17] <;> omega)
              refine hK436 _ _ _ ?_
              refine RN h0 [(0, 0)] [(1, AV.ptr 0 0), (3, Iz (IntKind.wrap .i64 (v3 + 1)))] [(0, .cells [Iz v0, AV.lst false false (List.map api_Arc.av v1)])] 1 (by simp [F17]) (by simp [F17]) ?_
              exact NX (k' := n1) (IntKind.wrap .i64 (v3 + 1)) hF (by simp [F17]) (by simp [F17])
    ·replace hF := ite_f h4 hF
     have h4_ := h4
     try simp at h4_
     have F18 := And.intro F4 (And.intro h4 h4_)
     refine CF (by simp [F18] <;> omega) ?_
     refine AW.exit ?_
     try simp
     refine hK353 _ _ _ ?_
     refine SQ [] [none] fun _ _ g r => ?_
     try simp [F18]
     and_intros <;> first | exact g _ (by kernel_rfl) | refine r _ _ _ ?_ | omega | (simp [maxLen, F18] <;> omega)
     refine WK [(2, Iz 0)] [] 1 (by simp [F18]) (by simp [F18]) ?_
     simp only [Option.some.injEq] at hF
     subst hF
     refine AW.ret (hQ _ _ _ ?_ (matchO_0 ?_)).1
     ·simp [Try.f13, F18]
     ·simp [F18]
theorem w_ref15_Valid (k : Nat) (v0 : Int) (v1 : (List api_Arc)) (v2 : (List Int)) (v3 : Bool) (hF : ref15_Valid k v0 v1 v2 = some v3) :
  FCall Try.prog 24 [AV.agg [AV.int .i64 v0, AV.lst false false (List.map api_Arc.av v1)], AV.lst false false (List.map (AV.int .i64) v2)] [] (AV.bool v3) [] := by
 unfold ref15_Valid at hF
 refine EN Try.func24 ?_
 intro c0 w0 Q h0 hQ
 refine WK [(0, AV.agg [Iz v0, AV.lst false false (List.map api_Arc.av v1)]), (1, Lz v2)] [] 0 (by simp [-List.reduceReplicate, sOf_set, ofI_set, allU8_set]) (by simp [-List.reduceReplicate, sOf_set, ofI_set, allU8_set]) ?_
 refine SQ [] [none, none] fun _ _ g r => ?_
 try simp [-List.reduceReplicate, sOf_set, ofI_set, allU8_set]
 and_intros <;> first | exact g _ (by kernel_rfl) | refine r _ _ _ ?_ | omega | (simp [-List.reduceReplicate, sOf_set, ofI_set, allU8_set, maxLen] <;> omega)
 refine WK [(1, Lz v2), (2, AV.ptr 0 0)] [(0, .cells [Iz v0, AV.lst false false (List.map api_Arc.av v1)])] 1 (by simp [-List.reduceReplicate, sOf_set, ofI_set, allU8_set]) (by simp [-List.reduceReplicate, sOf_set, ofI_set, allU8_set]) ?_
 refine AW.seq fun K281 hK281 => ?_
 refine SQ [] [none, none, none, none, some (11, false), some (11, false), some (11, false), some (11, false), some (11, false), some (11, false), none] fun _ _ g r => ?_
 try simp [-List.reduceReplicate, sOf_set, ofI_set, allU8_set]
 and_intros
 try any_goals first | omega | (simp [-List.reduceReplicate, sOf_set, ofI_set, allU8_set, maxLen] <;> omega)
 obtain ⟨v4, h1, hF⟩ := bnd1_elim hF
 refine AC (w_ref15_Check k _ _ _ h1) (.cons (.same (by simp)) .nil) ?_
 by_cases h2 : v4 ≠ 0
 ·replace hF := ite_t h2 hF
  have h2_ := eqb_f h2
  have h2__ := neb_t h2
  have F1 := And.intro h2 (And.intro h2_ h2__)
  try simp [-List.reduceReplicate, sOf_set, ofI_set, allU8_set, F1]
  and_intros <;> first | exact g _ (by kernel_rfl) | refine r _ _ _ ?_ | omega | (simp [-List.reduceReplicate, sOf_set, ofI_set, allU8_set, maxLen, F1] <;> omega)
  refine WK [(1, Lz v2), (2, AV.ptr 0 0), (18, AV.bool true)] [(0, .cells [Iz v0, AV.lst false false (List.map api_Arc.av v1)])] 1 (by simp [-List.reduceReplicate, sOf_set, ofI_set, allU8_set, F1]) (by simp [-List.reduceReplicate, sOf_set, ofI_set, allU8_set, F1]) ?_
  refine CT (by simp [-List.reduceReplicate, sOf_set, ofI_set, allU8_set, F1]) ?_
  refine SQ [] [none] fun _ _ g r => ?_
  try simp [-List.reduceReplicate, sOf_set, ofI_set, allU8_set, F1]
  and_intros <;> first | exact g _ (by kernel_rfl) | refine r _ _ _ ?_ | omega | (simp [-List.reduceReplicate, sOf_set, ofI_set, allU8_set, maxLen, F1] <;> omega)
  refine WK [(4, AV.bool false)] [] 1 (by simp [-List.reduceReplicate, sOf_set, ofI_set, allU8_set, F1]) (by simp [-List.reduceReplicate, sOf_set, ofI_set, allU8_set, F1]) ?_
  simp only [Option.some.injEq] at hF
  subst hF
  refine AW.ret (hQ _ _ _ ?_ (matchO_0 ?_)).1
  ·simp [Try.f24, F1]
  ·simp [F1]
 ·replace hF := ite_f h2 hF
  have h2q : v4 = 0 := Classical.not_not.1 h2
  have h2_ := eqb_t h2q
  have h2__ := neb_f h2q
  have F2 := And.intro h2_ (And.intro h2__ h2q)
  try simp [-List.reduceReplicate, sOf_set, ofI_set, allU8_set, F2]
  and_intros <;> first | exact g _ (by kernel_rfl) | refine r _ _ _ ?_ | omega | (simp [-List.reduceReplicate, sOf_set, ofI_set, allU8_set, maxLen, F2] <;> omega)
  refine WK [(1, Lz v2), (2, AV.ptr 0 0), (18, AV.bool ((v2.length : Int) != (v1.length : Int)))] [(0, .cells [Iz v0, AV.lst false false (List.map api_Arc.av v1)])] 1 (by simp [-List.reduceReplicate, sOf_set, ofI_set, allU8_set, F2]) (by simp [-List.reduceReplicate, sOf_set, ofI_set, allU8_set, F2]) ?_
  by_cases h3 : (v2.length : Int) ≠ (v1.length : Int)
  ·replace hF := ite_t h3 hF
   have h3_ := eqb_f h3
   have h3__ := neb_t h3
   have F3 := And.intro F2 (And.intro h3 (And.intro h3_ h3__))
   refine CT (by simp [-List.reduceReplicate, sOf_set, ofI_set, allU8_set, F3] <;> omega) ?_
   refine SQ [] [none] fun _ _ g r => ?_
   try simp [-List.reduceReplicate, sOf_set, ofI_set, allU8_set, F3]
   and_intros <;> first | exact g _ (by kernel_rfl) | refine r _ _ _ ?_ | omega | (simp [-List.reduceReplicate, sOf_set, ofI_set, allU8_set, maxLen, F3] <;> omega)
   refine WK [(4, AV.bool false)] [] 1 (by simp [-List.reduceReplicate, sOf_set, ofI_set, allU8_set, F3]) (by simp [-List.reduceReplicate, sOf_set, ofI_set, allU8_set, F3]) ?_
   simp only [Option.some.injEq] at hF
   subst hF
   refine AW.ret (hQ _ _ _ ?_ (matchO_0 ?_)).1
   ·simp [Try.f24, F3]
   ·simp [F3]
  ·replace hF := ite_f h3 hF
   have h3q : (v2.length : Int) = (v1.length : Int) := Classical.not_not.1 h3
   have h3_ := eqb_t h3q
   have h3__ := neb_f h3q
   refine CF (by simp [-List.reduceReplicate, sOf_set, ofI_set, allU8_set, F2, h3_, h3__] <;> omega) ?_
   refine AW.skip ?_
   refine hK281 _ _ _ ?_
   refine SQ [21] [none, none, none, none] fun _ _ g r => ?_
   obtain ⟨h4, hF⟩ := chk_elim hF
   have F4 := And.intro F2 (And.intro h3_ (And.intro h3__ h4))
   try simp [-List.reduceReplicate, sOf_set, ofI_set, allU8_set, F4]
   and_intros <;> first | exact g _ (by kernel_rfl) | refine r _ _ _ ?_ | omega | (simp [-List.reduceReplicate, sOf_set, ofI_set, allU8_set, maxLen, F4] <;> omega)
   refine WK [(1, Lz v2), (2, AV.ptr 0 0), (5, AV.slc 1 0 1 ((List.replicate (v0).toNat (0 : Int)).length) true)] [(0, .cells [Iz v0, AV.lst false false (List.map api_Arc.av v1)]), (1, .cells (List.map (AV.int .i64) (List.replicate (v0).toNat (0 : Int))))] 2 (by simp [-List.reduceReplicate, sOf_set, ofI_set, allU8_set, F4]) (by simp [-List.reduceReplicate, sOf_set, ofI_set, allU8_set, F4]) ?_
   refine AW.seq fun K380 hK380 => ?_
   refine SQ [] [none] fun _ _ g r => ?_
   try simp [-List.reduceReplicate, sOf_set, ofI_set, allU8_set, F4]
   and_intros <;> first | exact g _ (by kernel_rfl) | refine r _ _ _ ?_ | omega | (simp [-List.reduceReplicate, sOf_set, ofI_set, allU8_set, maxLen, F4] <;> omega)
   refine WK [(1, Lz v2), (2, AV.ptr 0 0), (5, AV.slc 1 0 1 ((List.replicate (v0).toNat (0 : Int)).length) true), (6, Iz 0)] [(0, .cells [Iz v0, AV.lst false false (List.map api_Arc.av v1)]), (1, .cells (List.map (AV.int .i64) (List.replicate (v0).toNat (0 : Int))))] 2 (by simp [-List.reduceReplicate, sOf_set, ofI_set, allU8_set, F4]) (by simp [-List.reduceReplicate, sOf_set, ofI_set, allU8_set, F4]) ?_
   refine AW.block ?_
   refine AW.loopF (α := (Int × (List Int))) (fun n (v5, v6) => ref15_Valid.L1 k v0 v1 v2 n v5 v6 = some v3) (fun (v5, v6) => [(1, Lz v2), (2, AV.ptr 0 0), (5, AV.slc 1 0 1 v6.length true), (6, Iz v5)]) (fun (v5, v6) => [(0, .cells [Iz v0, AV.lst false false (List.map api_Arc.av v1)]), (1, .cells (List.map (AV.int .i64) v6))]) 2 k ((0, (List.replicate (v0).toNat (0 : Int)))) hF (by simp [-List.reduceReplicate, sOf_set, ofI_set, allU8_set, F4]) (by simp [-List.reduceReplicate, sOf_set, ofI_set, allU8_set, F4]) (by simp) ?_
   rintro (_|n1) ⟨v5, v6⟩ hF K451 hK451
   ·try dsimp only at hF
    rw [ref15_Valid.L1] at hF; cases hF
   try dsimp only at hF
   rw [ref15_Valid.L1] at hF
   refine AW.seq fun K453 hK453 => ?_
   refine SQ [] [none, none, none, none] fun _ _ g r => ?_
   try simp [-List.reduceReplicate, sOf_set, ofI_set, allU8_set, F4]
   and_intros <;> first | exact g _ (by kernel_rfl) | refine r _ _ _ ?_ | omega | (simp [-List.reduceReplicate, sOf_set, ofI_set, allU8_set, maxLen, F4] <;> omega)
   refine WK [(1, Lz v2), (2, AV.ptr 0 0), (5, AV.slc 1 0 1 v6.length true), (6, Iz v5), (25, AV.bool (decide (v5 < (v2.length : Int))))] [(0, .cells [Iz v0, AV.lst false false (List.map api_Arc.av v1)]), (1, .cells (List.map (AV.int .i64) v6))] 2 (by simp [-List.reduceReplicate, sOf_set, ofI_set, allU8_set, F4]) (by simp [-List.reduceReplicate, sOf_set, ofI_set, allU8_set, F4]) ?_
   by_cases h5 : v5 < (v2.length : Int)
   ·replace hF := ite_t h5 hF
    have h5_ := h5
    try simp [-List.reduceReplicate] at h5_
    have F5 := And.intro F4 (And.intro h5 h5_)
    refine CT (by simp [-List.reduceReplicate, sOf_set, ofI_set, allU8_set, F5] <;> omega) ?_
    refine AW.skip ?_
    refine hK453 _ _ _ ?_
    refine AW.seq fun K464 hK464 => ?_
    refine AW.block ?_
    refine AW.seq fun K468 hK468 => ?_
    refine SQ [] [none, none, none, none, none, none, some (33, false), some (33, false), some (33, false), some (33, false), some (33, false), some (33, false), some (33, false), some (33, false), some (33, false), some (33, false), some (33, false), none] fun _ _ g r => ?_
    obtain ⟨v7, h6, h7, h8, hF⟩ := idx_elim hF
    have h8_ := get_of h8
    try simp [-List.reduceReplicate] at h8_
    have h7_ := h7
    try simp [-List.reduceReplicate] at h7_
    by_cases h9 : v7 < 0
    ·replace hF := ite_t h9 hF
     have h9_ := h9
     try simp [-List.reduceReplicate] at h9_
     have F6 := And.intro F5 (And.intro h6 (And.intro h7 (And.intro h8 (And.intro h8_ (And.intro h7_ (And.intro h9 h9_))))))
     try simp [-List.reduceReplicate, sOf_set, ofI_set, allU8_set, F6]
     and_intros <;> first | exact g _ (by kernel_rfl) | refine r _ _ _ ?_ | omega | (simp [-List.reduceReplicate, sOf_set, ofI_set, allU8_set, maxLen, F6] <;> omega)
     refine WK [(1, Lz v2), (2, AV.ptr 0 0), (5, AV.slc 1 0 1 v6.length true), (6, Iz v5), (45, AV.bool true)] [(0, .cells [Iz v0, AV.lst false false (List.map api_Arc.av v1)]), (1, .cells (List.map (AV.int .i64) v6))] 2 (by simp [-List.reduceReplicate, sOf_set, ofI_set, allU8_set, F6]) (by simp [-List.reduceReplicate, sOf_set, ofI_set, allU8_set, F6]) ?_
     refine CT (by simp [-List.reduceReplicate, sOf_set, ofI_set, allU8_set, F6]) ?_
     refine SQ [] [none] fun _ _ g r => ?_
     try simp [-List.reduceReplicate, sOf_set, ofI_set, allU8_set, F6]
     and_intros <;> first | exact g _ (by kernel_rfl) | refine r _ _ _ ?_ | omega | (simp [-List.reduceReplicate, sOf_set, ofI_set, allU8_set, maxLen, F6] <;> omega)
     refine WK [(4, AV.bool false)] [] 2 (by simp [-List.reduceReplicate, sOf_set, ofI_set, allU8_set, F6]) (by simp [-List.reduceReplicate, sOf_set, ofI_set, allU8_set, F6]) ?_
     simp only [Option.some.injEq] at hF
     subst hF
     refine AW.ret (hQ _ _ _ ?_ (matchO_0 ?_)).1
     ·simp [Try.f24, F6]
     ·simp [F6]
    ·replace hF := ite_f h9 hF
     have h9_ := h9
     try simp [-List.reduceReplicate] at h9_
     obtain ⟨v8, h10, h11, h12, hF⟩ := idx_elim hF
     have h12_ := get_of h12
     try simp [-List.reduceReplicate] at h12_
     have h11_ := h11
     try simp [-List.reduceReplicate] at h11_
     have F7 := And.intro F5 (And.intro h6 (And.intro h7 (And.intro h8 (And.intro h8_ (And.intro h7_ (And.intro h9 (And.intro h9_ (And.intro h10 (And.intro h11 (And.intro h12 (And.intro h12_ h11_)))))))))))
     try simp [-List.reduceReplicate, sOf_set, ofI_set, allU8_set, F7]
     and_intros <;> first | exact g _ (by kernel_rfl) | refine r _ _ _ ?_ | omega | (simp [-List.reduceReplicate, sOf_set, ofI_set, allU8_set, maxLen, F7] <;> omega)
     refine WK [(1, Lz v2), (2, AV.ptr 0 0), (5, AV.slc 1 0 1 v6.length true), (6, Iz v5), (45, AV.bool (decide (v8.Cap < v7)))] [(0, .cells [Iz v0, AV.lst false false (List.map api_Arc.av v1)]), (1, .cells (List.map (AV.int .i64) v6))] 2 (by simp [-List.reduceReplicate, sOf_set, ofI_set, allU8_set, F7]) (by simp [-List.reduceReplicate, sOf_set, ofI_set, allU8_set, F7]) ?_
     by_cases h13 : v8.Cap < v7
     ·replace hF := ite_t h13 hF
      have h13_ := h13
      try simp [-List.reduceReplicate] at h13_
      have F8 := And.intro F7 (And.intro h13 h13_)
      refine CT (by simp [-List.reduceReplicate, sOf_set, ofI_set, allU8_set, F8] <;> omega) ?_
      refine SQ [] [none] fun _ _ g r => ?_
      try simp [-List.reduceReplicate, sOf_set, ofI_set, allU8_set, F8]
      and_intros <;> first | exact g _ (by kernel_rfl) | refine r _ _ _ ?_ | omega | (simp [-List.reduceReplicate, sOf_set, ofI_set, allU8_set, maxLen, F8] <;> omega)
      refine WK [(4, AV.bool false)] [] 2 (by simp [-List.reduceReplicate, sOf_set, ofI_set, allU8_set, F8]) (by simp [-List.reduceReplicate, sOf_set, ofI_set, allU8_set, F8]) ?_
      simp only [Option.some.injEq] at hF
      subst hF
      refine AW.ret (hQ _ _ _ ?_ (matchO_0 ?_)).1
      ·simp [Try.f24, F8]
      ·simp [F8]
     ·replace hF := ite_f h13 hF
      have h13_ := h13
      try simp [-List.reduceReplicate] at h13_
      have F9 := And.intro F7 (And.intro h13 h13_)
      refine CF (by simp [-List.reduceReplicate, sOf_set, ofI_set, allU8_set, F9] <;> omega) ?_
      refine AW.skip ?_
      refine hK468 _ _ _ ?_
      refine SQ [] [none, none, none, none, none, none, none, none, none, none, none, none, none, none, none, none] fun _ _ g r => ?_
      obtain ⟨⟨h14, h15⟩, hF⟩ := chk_elim hF
      have h15_ := ne_of_lt h15
      obtain ⟨v9, h16, h17, h18, hF⟩ := idx_elim hF
      have h18_ := get_of h18
      try simp [-List.reduceReplicate] at h18_
      have h17_ := h17
      try simp [-List.reduceReplicate] at h17_
      obtain ⟨⟨h19, h20⟩, hF⟩ := chk_elim hF
      have h20_ := ne_of_lt h20
      have F10 := And.intro F9 (And.intro h14 (And.intro h15 (And.intro h15_ (And.intro h16 (And.intro h17 (And.intro h18 (And.intro h18_ (And.intro h17_ (And.intro h19 (And.intro h20 h20_))))))))))
      try simp [-List.reduceReplicate, sOf_set, ofI_set, allU8_set, F10]
      and_intros <;> first | exact g _ (by kernel_rfl) | refine r _ _ _ ?_ | omega | (simp [-List.reduceReplicate, sOf_set, ofI_set, allU8_set, maxLen, F10] <;> omega)
      refine WK [(1, Lz v2), (2, AV.ptr 0 0), (5, AV.slc 1 0 1 ((v6.set (v8.From).toNat (IntKind.wrap .i64 (v9 - v7))).length) true), (6, Iz v5)] [(0, .cells [Iz v0, AV.lst false false (List.map api_Arc.av v1)]), (1, .cells (List.map (AV.int .i64) (v6.set (v8.From).toNat (IntKind.wrap .i64 (v9 - v7)))))] 2 (by simp [-List.reduceReplicate, sOf_set, ofI_set, allU8_set, F10]) (by simp [-List.reduceReplicate, sOf_set, ofI_set, allU8_set, F10]) ?_
      refine RG [] [none, none, none, none, none, none, none, none, none, none, none, none, none, none, none, none] fun _ _ g r => ?_
      obtain ⟨⟨h21, h22⟩, hF⟩ := chk_elim hF
      have h22_ := ne_of_lt h22
      obtain ⟨v10, h23, h24, h25, hF⟩ := idx_elim hF
      have h25_ := get_of h25
      try simp [-List.reduceReplicate] at h25_
      have h24_ := h24
      try simp [-List.reduceReplicate] at h24_
      have h25__ := get_of (map_get ((AV.int .i64)) h25)
      try simp at h25__
      obtain ⟨⟨h26, h27⟩, hF⟩ := chk_elim hF
      have h27_ := ne_of_lt h27
      have F11 := And.intro F10 (And.intro h21 (And.intro h22 (And.intro h22_ (And.intro h23 (And.intro h24 (And.intro h25 (And.intro h25_ (And.intro h24_ (And.intro h25__ (And.intro h26 (And.intro h27 h27_)))))))))))
      try simp [-List.reduceReplicate, sOf_set, ofI_set, allU8_set, F11]
      and_intros <;> first | exact g _ (by kernel_rfl) | refine r _ _ _ ?_ | omega | (simp [-List.reduceReplicate, sOf_set, ofI_set, allU8_set, maxLen, F11] <;> omega)
      refine hK464 _ _ _ ?_
      refine WK [(1, Lz v2), (2, AV.ptr 0 0), (5, AV.slc 1 0 1 (((v6.set (v8.From).toNat (IntKind.wrap .i64 (v9 - v7))).set (v8.To).toNat (IntKind.wrap .i64 (v10 + v7))).length) true), (6, Iz v5)] [(0, .cells [Iz v0, AV.lst false false (List.map api_Arc.av v1)]), (1, .cells (List.map (AV.int .i64) ((v6.set (v8.From).toNat (IntKind.wrap .i64 (v9 - v7))).set (v8.To).toNat (IntKind.wrap .i64 (v10 + v7)))))] 2 (by simp [-List.reduceReplicate, sOf_set, ofI_set, allU8_set, F11]) (by simp [-List.reduceReplicate, sOf_set, ofI_set, allU8_set, F11]) ?_
      refine RG [] [none, none, none] fun _ _ g r => ?_
      try simp [-List.reduceReplicate, sOf_set, ofI_set, allU8_set, F11]
      and_intros <;> first | exact g _ (by kernel_rfl) | refine r _ _ _ ?_ | omega | (simp [-List.reduceReplicate, sOf_set, ofI_set, allU8_set, maxLen, F11] <;> omega)
      refine hK451 _ _ _ ?_
      exact NX (k' := n1) ((IntKind.wrap .i64 (v5 + 1), (v6.set (v8.From).toNat (IntKind.wrap .i64 (v9 - v7))).set (v8.To).toNat (IntKind.wrap .i64 (v10 + v7)))) hF (by simp [-List.reduceReplicate, sOf_set, ofI_set, allU8_set, F11]) (by simp [-List.reduceReplicate, sOf_set, ofI_set, allU8_set, F11])
   ·replace hF := ite_f h5 hF
    have h5_ := h5
    try simp [-List.reduceReplicate] at h5_
    have F12 := And.intro F4 (And.intro h5 h5_)
    refine CF (by simp [-List.reduceReplicate, sOf_set, ofI_set, allU8_set, F12] <;> omega) ?_
    refine AW.exit ?_
    try simp [-List.reduceReplicate]
    refine hK380 _ _ _ ?_
    refine WK [(2, AV.ptr 0 0), (5, AV.slc 1 0 1 v6.length true)] [(0, .cells [Iz v0, AV.lst false false (List.map api_Arc.av v1)]), (1, .cells (List.map (AV.int .i64) v6))] 2 (by simp [-List.reduceReplicate, sOf_set, ofI_set, allU8_set, F12]) (by simp [-List.reduceReplicate, sOf_set, ofI_set, allU8_set, F12]) ?_
    refine AW.frz 1 (o := .cells (List.map (AV.int .i64) v6)) (by simp [-List.reduceReplicate, sOf_set, ofI_set, allU8_set, F12]) rfl [(5, AV.lst false true (List.map (AV.int .i64) v6))] [] ⟨(.l (by simp) (by simp) (by simp) (by simp)), trivial⟩ trivial ?_
    refine WK [(2, AV.ptr 0 0), (5, AV.lst false true (List.map (AV.int .i64) v6))] [(0, .cells [Iz v0, AV.lst false false (List.map api_Arc.av v1)])] 2 (by simp [-List.reduceReplicate, sOf_set, ofI_set, allU8_set, F12]) (by simp [-List.reduceReplicate, sOf_set, ofI_set, allU8_set, F12]) ?_
    refine AW.seq fun K513 hK513 => ?_
    refine SQ [] [none] fun _ _ g r => ?_
    try simp [-List.reduceReplicate, sOf_set, ofI_set, allU8_set, F12]
    and_intros <;> first | exact g _ (by kernel_rfl) | refine r _ _ _ ?_ | omega | (simp [-List.reduceReplicate, sOf_set, ofI_set, allU8_set, maxLen, F12] <;> omega)
    refine WK [(2, AV.ptr 0 0), (5, AV.lst false true (List.map (AV.int .i64) v6)), (7, Iz 2)] [(0, .cells [Iz v0, AV.lst false false (List.map api_Arc.av v1)])] 2 (by simp [-List.reduceReplicate, sOf_set, ofI_set, allU8_set, F12]) (by simp [-List.reduceReplicate, sOf_set, ofI_set, allU8_set, F12]) ?_
    refine AW.block ?_
    refine RM h0 [(0, 0)] [(2, AV.ptr 0 0), (5, AV.lst false true (List.map (AV.int .i64) v6)), (7, Iz 2)] [(0, .cells [Iz v0, AV.lst false false (List.map api_Arc.av v1)])] 1 (by simp [-List.reduceReplicate, sOf_set, ofI_set, allU8_set, F12]) (by simp [-List.reduceReplicate, sOf_set, ofI_set, allU8_set, F12]) ?_
    refine AW.loopF (α := Int) (fun n v11 => ref15_Valid.L2 k v0 v6 n v11 = some v3) (fun v11 => [(2, AV.ptr 0 0), (5, AV.lst false true (List.map (AV.int .i64) v6)), (7, Iz v11)]) (fun v11 => [(0, .cells [Iz v0, AV.lst false false (List.map api_Arc.av v1)])]) 1 k (2) hF (by simp [-List.reduceReplicate, sOf_set, ofI_set, allU8_set, F12]) (by simp [-List.reduceReplicate, sOf_set, ofI_set, allU8_set, F12]) (by simp) ?_
    rintro (_|n2) v11 hF K542 hK542
    ·try dsimp only at hF
     rw [ref15_Valid.L2] at hF; cases hF
    try dsimp only at hF
    rw [ref15_Valid.L2] at hF
    refine AW.seq fun K544 hK544 => ?_
    refine SQ [] [none, none, none, none] fun _ _ g r => ?_
    try simp [-List.reduceReplicate, sOf_set, ofI_set, allU8_set, F12]
    and_intros <;> first | exact g _ (by kernel_rfl) | refine r _ _ _ ?_ | omega | (simp [-List.reduceReplicate, sOf_set, ofI_set, allU8_set, maxLen, F12] <;> omega)
    refine WK [(2, AV.ptr 0 0), (5, AV.lst false true (List.map (AV.int .i64) v6)), (7, Iz v11), (79, AV.bool (decide (v11 < v0)))] [(0, .cells [Iz v0, AV.lst false false (List.map api_Arc.av v1)])] 1 (by simp [-List.reduceReplicate, sOf_set, ofI_set, allU8_set, F12]) (by simp [-List.reduceReplicate, sOf_set, ofI_set, allU8_set, F12]) ?_
    by_cases h28 : v11 < v0
    ·replace hF := ite_t h28 hF
     have h28_ := h28
     try simp [-List.reduceReplicate] at h28_
     have F13 := And.intro F12 (And.intro h28 h28_)
     refine CT (by simp [-List.reduceReplicate, sOf_set, ofI_set, allU8_set, F13] <;> omega) ?_
     refine AW.skip ?_
     refine hK544 _ _ _ ?_
     refine AW.seq fun K548 hK548 => ?_
     refine AW.block ?_
     refine SQ [] [none, none, none, none, none] fun _ _ g r => ?_
     obtain ⟨v12, h29, h30, h31, hF⟩ := idx_elim hF
     have h31_ := get_of h31
     try simp [-List.reduceReplicate] at h31_
     have h30_ := h30
     try simp [-List.reduceReplicate] at h30_
     have F14 := And.intro F13 (And.intro h29 (And.intro h30 (And.intro h31 (And.intro h31_ h30_))))
     try simp [-List.reduceReplicate, sOf_set, ofI_set, allU8_set, F14]
     and_intros <;> first | exact g _ (by kernel_rfl) | refine r _ _ _ ?_ | omega | (simp [-List.reduceReplicate, sOf_set, ofI_set, allU8_set, maxLen, F14] <;> omega)
     refine WK [(2, AV.ptr 0 0), (5, AV.lst false true (List.map (AV.int .i64) v6)), (7, Iz v11), (86, AV.bool (v12 != 0))] [(0, .cells [Iz v0, AV.lst false false (List.map api_Arc.av v1)])] 1 (by simp [-List.reduceReplicate, sOf_set, ofI_set, allU8_set, F14]) (by simp [-List.reduceReplicate, sOf_set, ofI_set, allU8_set, F14]) ?_
     by_cases h32 : v12 ≠ 0
     ·replace hF := ite_t h32 hF
      have h32_ := eqb_f h32
      have h32__ := neb_t h32
      have F15 := And.intro F14 (And.intro h32 (And.intro h32_ h32__))
      refine CT (by simp [-List.reduceReplicate, sOf_set, ofI_set, allU8_set, F15] <;> omega) ?_
      refine SQ [] [none] fun _ _ g r => ?_
      try simp [-List.reduceReplicate, sOf_set, ofI_set, allU8_set, F15]
      and_intros <;> first | exact g _ (by kernel_rfl) | refine r _ _ _ ?_ | omega | (simp [-List.reduceReplicate, sOf_set, ofI_set, allU8_set, maxLen, F15] <;> omega)
      refine WK [(4, AV.bool false)] [] 1 (by simp [-List.reduceReplicate, sOf_set, ofI_set, allU8_set, F15]) (by simp [-List.reduceReplicate, sOf_set, ofI_set, allU8_set, F15]) ?_
      simp only [Option.some.injEq] at hF
      subst hF
      refine AW.ret (hQ _ _ _ ?_ (matchO_0 ?_)).1
      ·simp [Try.f24, F15]
      ·simp [F15]
     ·replace hF := ite_f h32 hF
      have h32q : v12 = 0 := Classical.not_not.1 h32
      have h32_ := eqb_t h32q
      have h32__ := neb_f h32q
      have F16 := And.intro F14 (And.intro h32_ (And.intro h32__ h32q))
      refine CF (by simp [-List.reduceReplicate, sOf_set, ofI_set, allU8_set, F16] <;> omega) ?_
      refine AW.skip ?_
      refine hK548 _ _ _ ?_
      refine RG [] [none, none, none] fun _ _ g r => ?_
      try simp [-List.reduceReplicate, sOf_set, ofI_set, allU8_set, F16]
      and_intros <;> first | exact g _ (by kernel_rfl) | refine r _ _ _ ?_ | omega | (simp [-List.reduceReplicate, sOf_set, ofI_set, allU8_set, maxLen, F16] <;> omega)
      refine hK542 _ _ _ ?_
      exact NX (k' := n2) (IntKind.wrap .i64 (v11 + 1)) hF (by simp [-List.reduceReplicate, sOf_set, ofI_set, allU8_set, F16]) (by simp [-List.reduceReplicate, sOf_set, ofI_set, allU8_set, F16])
    ·replace hF := ite_f h28 hF
     have h28_ := h28
     try simp [-List.reduceReplicate] at h28_
     have F17 := And.intro F12 (And.intro h28 h28_)
     refine CF (by simp [-List.reduceReplicate, sOf_set, ofI_set, allU8_set, F17] <;> omega) ?_
     refine AW.exit ?_
     try simp [-List.reduceReplicate]
     refine hK513 _ _ _ ?_
     refine SQ [] [none] fun _ _ g r => ?_
     try simp [-List.reduceReplicate, sOf_set, ofI_set, allU8_set, F17]
     and_intros <;> first | exact g _ (by kernel_rfl) | refine r _ _ _ ?_ | omega | (simp [-List.reduceReplicate, sOf_set, ofI_set, allU8_set, maxLen, F17] <;> omega)
     refine WK [(4, AV.bool true)] [] 1 (by simp [-List.reduceReplicate, sOf_set, ofI_set, allU8_set, F17]) (by simp [-List.reduceReplicate, sOf_set, ofI_set, allU8_set, F17]) ?_
     simp only [Option.some.injEq] at hF
     subst hF
     refine AW.ret (hQ _ _ _ ?_ (matchO_0 ?_)).1
     ·simp [Try.f24, F17]
     ·simp [F17]
theorem w_ref11_Has (k : Nat) (v0 : (List Int)) (v1 : Int) (v2 : Bool) (hF : ref11_Has k v0 v1 = some v2) :
  FCall Try.prog 33 [AV.lst false false (List.map (AV.int .i64) v0), AV.int .i64 v1] [] (AV.bool v2) [] := by
 unfold ref11_Has at hF
 refine EN Try.func33 ?_
 intro c0 w0 Q h0 hQ
 refine WK [(0, Lz v0), (1, Iz v1)] [] 0 (by simp) (by simp) ?_
 refine SQ [] [none] fun _ _ g r => ?_
 try simp
 and_intros <;> first | exact g _ (by kernel_rfl) | refine r _ _ _ ?_ | omega | (simp [maxLen] <;> omega)
 refine WK [(0, Lz v0), (1, Iz v1)] [] 0 (by simp) (by simp) ?_
 refine AW.seq fun K119 hK119 => ?_
 refine SQ [] [none] fun _ _ g r => ?_
 try simp
 and_intros <;> first | exact g _ (by kernel_rfl) | refine r _ _ _ ?_ | omega | (simp [maxLen] <;> omega)
 refine WK [(0, Lz v0), (1, Iz v1), (5, Iz 0)] [] 0 (by simp) (by simp) ?_
 refine AW.block ?_
 refine AW.loopF (α := Int) (fun n v3 => ref11_Has.L1 k v0 v1 n v3 = some v2) (fun v3 => [(0, Lz v0), (1, Iz v1), (5, Iz v3)]) (fun v3 => []) 0 k (0) hF (by simp) (by simp) (by simp) ?_
 rintro (_|n1) v3 hF K148 hK148
 ·try dsimp only at hF
  rw [ref11_Has.L1] at hF; cases hF
 try dsimp only at hF
 rw [ref11_Has.L1] at hF
 refine AW.seq fun K150 hK150 => ?_
 refine SQ [] [none, none, none, none] fun _ _ g r => ?_
 try simp
 and_intros <;> first | exact g _ (by kernel_rfl) | refine r _ _ _ ?_ | omega | (simp [maxLen] <;> omega)
 refine WK [(0, Lz v0), (1, Iz v1), (5, Iz v3), (9, AV.bool (decide (v3 < (v0.length : Int))))] [] 0 (by simp) (by simp) ?_
 by_cases h1 : v3 < (v0.length : Int)
 ·replace hF := ite_t h1 hF
  have h1_ := h1
  try simp at h1_
  refine CT (by simp [h1, h1_] <;> omega) ?_
  refine AW.skip ?_
  refine hK150 _ _ _ ?_
  refine AW.seq fun K154 hK154 => ?_
  refine AW.block ?_
  refine SQ [] [none, none, none, none, none, none] fun _ _ g r => ?_
  obtain ⟨v4, h2, h3, h4, hF⟩ := idx_elim hF
  have h4_ := get_of h4
  try simp at h4_
  have h3_ := h3
  try simp at h3_
  have F1 := And.intro h1 (And.intro h1_ (And.intro h2 (And.intro h3 (And.intro h4 (And.intro h4_ h3_)))))
  try simp [F1]
  and_intros <;> first | exact g _ (by kernel_rfl) | refine r _ _ _ ?_ | omega | (simp [maxLen, F1] <;> omega)
  refine WK [(0, Lz v0), (1, Iz v1), (5, Iz v3), (17, AV.bool (v4 == v1))] [] 0 (by simp [F1]) (by simp [F1]) ?_
  by_cases h5 : v4 = v1
  ·replace hF := ite_t h5 hF
   have h5q : v4 = v1 := h5
   have h5_ := eqb_t h5q
   have h5__ := neb_f h5q
   have F2 := And.intro F1 (And.intro h5_ h5__)
   refine CT (by simp [F2] <;> omega) ?_
   refine SQ [] [none] fun _ _ g r => ?_
   try simp [F2]
   and_intros <;> first | exact g _ (by kernel_rfl) | refine r _ _ _ ?_ | omega | (simp [maxLen, F2] <;> omega)
   refine WK [(4, AV.bool true)] [] 0 (by simp [F2]) (by simp [F2]) ?_
   simp only [Option.some.injEq] at hF
   subst hF
   refine AW.ret (hQ _ _ _ ?_ (matchO_0 ?_)).1
   ·simp [Try.f33, F2]
   ·simp [F2]
  ·replace hF := ite_f h5 hF
   have h5_ := eqb_f h5
   have h5__ := neb_t h5
   have F3 := And.intro F1 (And.intro h5 (And.intro h5_ h5__))
   refine CF (by simp [F3] <;> omega) ?_
   refine AW.skip ?_
   refine hK154 _ _ _ ?_
   refine RG [] [none, none, none] fun _ _ g r => ?_
   try simp [F3]
   and_intros <;> first | exact g _ (by kernel_rfl) | refine r _ _ _ ?_ | omega | (simp [maxLen, F3] <;> omega)
   refine hK148 _ _ _ ?_
   exact NX (k' := n1) (IntKind.wrap .i64 (v3 + 1)) hF (by simp [F3]) (by simp [F3])
 ·replace hF := ite_f h1 hF
  have h1_ := h1
  try simp at h1_
  refine CF (by simp [h1, h1_] <;> omega) ?_
  refine AW.exit ?_
  try simp
  refine hK119 _ _ _ ?_
  refine SQ [] [none] fun _ _ g r => ?_
  try simp [h1, h1_]
  and_intros <;> first | exact g _ (by kernel_rfl) | refine r _ _ _ ?_ | omega | (simp [h1, h1_, maxLen] <;> omega)
  refine WK [(4, AV.bool false)] [] 0 (by simp [h1, h1_]) (by simp [h1, h1_]) ?_
  simp only [Option.some.injEq] at hF
  subst hF
  refine AW.ret (hQ _ _ _ ?_ (matchO_0 ?_)).1
  ·simp [Try.f33, h1, h1_]
  ·simp [h1, h1_]
theorem w_law15_leaves (k : Nat) (v0 : Int) (v1 : (List api_Arc)) (v2 : (List Int)) (v3 : Int) (hF : law15_leaves k v0 v1 v2 = some v3) :
  FCall Try.prog 25 [AV.agg [AV.int .i64 v0, AV.lst false false (List.map api_Arc.av v1)], AV.lst false false (List.map (AV.int .i64) v2)] [] (AV.int .i64 v3) [] := by
 unfold law15_leaves at hF
 refine EN Try.func25 ?_
 intro c0 w0 Q h0 hQ
 refine WK [(0, AV.agg [Iz v0, AV.lst false false (List.map api_Arc.av v1)]), (1, Lz v2)] [] 0 (by simp) (by simp) ?_
 refine SQ [] [none, none] fun _ _ g r => ?_
 try simp
 and_intros <;> first | exact g _ (by kernel_rfl) | refine r _ _ _ ?_ | omega | (simp [maxLen] <;> omega)
 refine WK [(1, Lz v2), (2, AV.ptr 0 0)] [(0, .cells [Iz v0, AV.lst false false (List.map api_Arc.av v1)])] 1 (by simp) (by simp) ?_
 refine SQ [] [none] fun _ _ g r => ?_
 try simp
 and_intros <;> first | exact g _ (by kernel_rfl) | refine r _ _ _ ?_ | omega | (simp [maxLen] <;> omega)
 refine WK [(1, Lz v2), (2, AV.ptr 0 0), (5, Iz 0)] [(0, .cells [Iz v0, AV.lst false false (List.map api_Arc.av v1)])] 1 (by simp) (by simp) ?_
 refine AW.seq fun K121 hK121 => ?_
 refine SQ [] [none] fun _ _ g r => ?_
 try simp
 and_intros <;> first | exact g _ (by kernel_rfl) | refine r _ _ _ ?_ | omega | (simp [maxLen] <;> omega)
 refine WK [(1, Lz v2), (2, AV.ptr 0 0), (5, Iz 0), (6, Iz 0)] [(0, .cells [Iz v0, AV.lst false false (List.map api_Arc.av v1)])] 1 (by simp) (by simp) ?_
 refine AW.block ?_
 refine AW.loopF (α := (Int × Int)) (fun n (v4, v5) => law15_leaves.L1 k v1 v2 n v4 v5 = some v3) (fun (v4, v5) => [(1, Lz v2), (2, AV.ptr 0 0), (5, Iz v4), (6, Iz v5)]) (fun (v4, v5) => [(0, .cells [Iz v0, AV.lst false false (List.map api_Arc.av v1)])]) 1 k ((0, 0)) hF (by simp) (by simp) (by simp) ?_
 rintro (_|n1) ⟨v4, v5⟩ hF K150 hK150
 ·try dsimp only at hF
  rw [law15_leaves.L1] at hF; cases hF
 try dsimp only at hF
 rw [law15_leaves.L1] at hF
 refine AW.seq fun K152 hK152 => ?_
 refine SQ [] [none, none, none, none, none] fun _ _ g r => ?_
 try simp
 and_intros <;> first | exact g _ (by kernel_rfl) | refine r _ _ _ ?_ | omega | (simp [maxLen] <;> omega)
 refine WK [(1, Lz v2), (2, AV.ptr 0 0), (5, Iz v4), (6, Iz v5), (11, AV.bool (decide (v5 < (v1.length : Int))))] [(0, .cells [Iz v0, AV.lst false false (List.map api_Arc.av v1)])] 1 (by simp) (by simp) ?_
 by_cases h1 : v5 < (v1.length : Int)
 ·replace hF := ite_t h1 hF
  have h1_ := h1
  try simp at h1_
  refine CT (by simp [h1, h1_] <;> omega) ?_
  refine AW.skip ?_
  refine hK152 _ _ _ ?_
  refine AW.midF (α := Int) (fun v6 => law15_leaves.J2 k v5 (fun v4_ v5_ => law15_leaves.L1 k v1 v2 n1 v4_ v5_) v6 = some v3) (fun v6 => [(1, Lz v2), (2, AV.ptr 0 0), (5, Iz v6), (6, Iz v5)]) (fun v6 => [(0, .cells [Iz v0, AV.lst false false (List.map api_Arc.av v1)])]) 1 (fun K157 hK157 => ?_) ?_
  ·refine AW.block ?_
   refine SQ [] [none, none, none, none, none, none, none, none, none, some (22, true), some (22, true), some (22, true), some (22, true), some (22, true), some (22, true), some (22, true), some (22, true), some (22, true), none] fun _ _ g r => ?_
   obtain ⟨v7, h2, h3, h4, hF⟩ := idx_elim hF
   have h4_ := get_of h4
   try simp at h4_
   have h3_ := h3
   try simp at h3_
   have F1 := And.intro h1 (And.intro h1_ (And.intro h2 (And.intro h3 (And.intro h4 (And.intro h4_ h3_)))))
   try simp [F1]
   and_intros
   try any_goals first | omega | (simp [maxLen, F1] <;> omega)
   obtain ⟨v8, h5, hF⟩ := bnd1_elim hF
   refine AC (w_ref11_Has k _ _ _ h5) (.cons (.same (by simp [F1])) (.cons (.same (by simp [F1])) .nil)) ?_
   by_cases h6 : v8 = true
   ·replace hF := ite_t h6 hF
    have h6_ := h6
    try simp at h6_
    have F2 := And.intro F1 (And.intro h6 h6_)
    try simp [F2]
    and_intros
    try any_goals first | omega | (simp [maxLen, F2] <;> omega)
    obtain ⟨v9, h7, hF⟩ := bnd1_elim hF
    refine AC (w_ref11_Has k _ _ _ h7) (.cons (.same (by simp [F2])) (.cons (.same (by simp [F2])) .nil)) ?_
    try simp [F2]
    and_intros <;> first | exact g _ (by kernel_rfl) | refine r _ _ _ ?_ | omega | (simp [maxLen, F2] <;> omega)
    refine WK [(1, Lz v2), (2, AV.ptr 0 0), (5, Iz v4), (6, Iz v5), (32, AV.bool (!v9))] [(0, .cells [Iz v0, AV.lst false false (List.map api_Arc.av v1)])] 1 (by simp [F2]) (by simp [F2]) ?_
    by_cases h8 : (!v9) = true
    ·replace hF := ite_t h8 hF
     have h8_ := h8
     try simp at h8_
     have F3 := And.intro F2 (And.intro h8 h8_)
     refine CT (by simp [F3] <;> omega) ?_
     refine RG [] [none, none, none, none, none, none, none, none, none] fun _ _ g r => ?_
     try simp [F3]
     and_intros <;> first | exact g _ (by kernel_rfl) | refine r _ _ _ ?_ | omega | (simp [maxLen, F3] <;> omega)
     refine hK157 _ _ _ ?_
     exact JN (IntKind.wrap .i64 (v4 + v7.Cap)) hF (by simp [F3]) (by simp [F3])
    ·replace hF := ite_f h8 hF
     have h8_ := h8
     try simp at h8_
     have F4 := And.intro F2 (And.intro h8 h8_)
     refine CF (by simp [F4] <;> omega) ?_
     refine AW.skip ?_
     refine hK157 _ _ _ ?_
     exact JN (v4) hF (by simp [F4]) (by simp [F4])
   ·replace hF := ite_f h6 hF
    have h6_ := h6
    try simp at h6_
    have F5 := And.intro F1 (And.intro h6 h6_)
    try simp [F5]
    and_intros <;> first | exact g _ (by kernel_rfl) | refine r _ _ _ ?_ | omega | (simp [maxLen, F5] <;> omega)
    refine WK [(1, Lz v2), (2, AV.ptr 0 0), (5, Iz v4), (6, Iz v5), (32, AV.bool false)] [(0, .cells [Iz v0, AV.lst false false (List.map api_Arc.av v1)])] 1 (by simp [F5]) (by simp [F5]) ?_
    refine CF (by simp [F5]) ?_
    refine AW.skip ?_
    refine hK157 _ _ _ ?_
    exact JN (v4) hF (by simp [F5]) (by simp [F5])
  ·rintro v6 hF
   try dsimp only at hF
   unfold law15_leaves.J2 at hF
   refine RG [] [none, none, none] fun _ _ g r => ?_
   try simp [h1, h1_]
   and_intros <;> first | exact g _ (by kernel_rfl) | refine r _ _ _ ?_ | omega | (simp [h1, h1_, maxLen] <;> omega)
   refine hK150 _ _ _ ?_
   exact NX (k' := n1) ((v6, IntKind.wrap .i64 (v5 + 1))) hF (by simp [h1, h1_]) (by simp [h1, h1_])
 ·replace hF := ite_f h1 hF
  have h1_ := h1
  try simp at h1_
  refine CF (by simp [h1, h1_] <;> omega) ?_
  refine AW.exit ?_
  try simp
  refine hK121 _ _ _ ?_
  refine SQ [] [none, none] fun _ _ g r => ?_
  try simp [h1, h1_]
  and_intros <;> first | exact g _ (by kernel_rfl) | refine r _ _ _ ?_ | omega | (simp [h1, h1_, maxLen] <;> omega)
  refine WK [(4, Iz v4)] [] 1 (by simp [h1, h1_]) (by simp [h1, h1_]) ?_
  simp only [Option.some.injEq] at hF
  subst hF
  refine AW.ret (hQ _ _ _ ?_ (matchO_0 ?_)).1
  ·simp [Try.f25, h1, h1_]
  ·simp [h1, h1_]
theorem w_law15_FlowLeast (k : Nat) (v0 : (List Int)) (v1 : Bool) (hF : law15_FlowLeast k v0 = some v1) :
  FCall Try.prog 5 [AV.lst false false (List.map (AV.int .i64) v0)] [] (AV.bool v1) [] := by
 unfold law15_FlowLeast at hF
 refine EN Try.func5 ?_
 intro c0 w0 Q h0 hQ
 refine WK [(0, Lz v0)] [] 0 (by simp) (by simp) ?_
 refine SQ [] [none] fun _ _ g r => ?_
 try simp
 and_intros <;> first | exact g _ (by kernel_rfl) | refine r _ _ _ ?_ | omega | (simp [maxLen] <;> omega)
 refine WK [(0, Lz v0)] [] 0 (by simp) (by simp) ?_
 refine AW.seq fun K1379 hK1379 => ?_
 refine SQ [] [none, none, none] fun _ _ g r => ?_
 try simp
 and_intros
 try any_goals first | omega | (simp [maxLen] <;> omega)
 obtain ⟨v2, h1, hF⟩ := bnd1_elim hF
 refine AC (w_made_Light k _ _ h1) (.cons (.same (by simp)) .nil) ?_
 try simp
 and_intros <;> first | exact g _ (by kernel_rfl) | refine r _ _ _ ?_ | omega | (simp [maxLen] <;> omega)
 refine WK [(0, Lz v0), (13, AV.bool (!v2))] [] 0 (by simp) (by simp) ?_
 by_cases h2 : (!v2) = true
 ·replace hF := ite_t h2 hF
  have h2_ := h2
  try simp at h2_
  refine CT (by simp [h2, h2_] <;> omega) ?_
  refine SQ [] [none, none] fun _ _ g r => ?_
  try simp [h2, h2_]
  and_intros
  try any_goals first | omega | (simp [h2, h2_, maxLen] <;> omega)
  obtain ⟨v3, h3, hF⟩ := bnd1_elim hF
  refine AC (w_law15_awake k _ h3) .nil ?_
  try simp [h2, h2_]
  and_intros <;> first | exact g _ (by kernel_rfl) | refine r _ _ _ ?_ | omega | (simp [h2, h2_, maxLen] <;> omega)
  refine WK [(2, AV.bool v3)] [] 0 (by simp [h2, h2_]) (by simp [h2, h2_]) ?_
  simp only [Option.some.injEq] at hF
  subst hF
  refine AW.ret (hQ _ _ _ ?_ (matchO_0 ?_)).1
  ·simp [Try.f5, h2, h2_]
  ·simp [h2, h2_]
 ·replace hF := ite_f h2 hF
  have h2_ := h2
  try simp at h2_
  refine CF (by simp [h2, h2_] <;> omega) ?_
  refine AW.skip ?_
  refine hK1379 _ _ _ ?_
  refine SQ [] [none, none, none] fun _ _ g r => ?_
  try simp [h2, h2_]
  and_intros
  try any_goals first | omega | (simp [h2, h2_, maxLen] <;> omega)
  obtain ⟨v4, v5, h4, hF⟩ := bnd2_elim hF
  refine AC (w_made_Roll k _ _ _ h4) (.cons (.same (by simp [h2, h2_])) .nil) ?_
  try simp [h2, h2_]
  and_intros <;> first | exact g _ (by kernel_rfl) | refine r _ _ _ ?_ | omega | (simp [h2, h2_, maxLen] <;> omega)
  refine WK [(3, AV.ptr 0 0)] [(0, .cells [Lz v4, Iz v5])] 1 (by simp [h2, h2_]) (by simp [h2, h2_]) ?_
  refine SQ [] [none, none, none, none] fun _ _ g r => ?_
  try simp [h2, h2_]
  and_intros
  try any_goals first | omega | (simp [h2, h2_, maxLen] <;> omega)
  obtain ⟨v6, v7, v8, h5, hF⟩ := bnd3_elim hF
  refine aCall_l (w_made_Dice_Network k _ _ _ _ _ h5) (by simp) [0] [] [0] rfl (.cons (.same (by simp [h2, h2_])) .nil) (by simp [h2, h2_]) (by decide) (by simp) (by simp) (.inl rfl) (by simp) (by simp) ?_
  try simp [h2, h2_]
  and_intros <;> first | exact g _ (by kernel_rfl) | refine r _ _ _ ?_ | omega | (simp [h2, h2_, maxLen] <;> omega)
  refine WK [(4, AV.ptr 1 0)] [(1, .cells [Iz v6, AV.lst false false (List.map api_Arc.av v7)])] 2 (by simp [h2, h2_]) (by simp [h2, h2_]) ?_
  refine SQ [] [none, none, none, none, none, none, none] fun _ _ g r => ?_
  try simp [h2, h2_]
  and_intros
  try any_goals first | omega | (simp [h2, h2_, maxLen] <;> omega)
  obtain ⟨v9, v10, h6, hF⟩ := bnd2_elim hF
  refine AC (w_flow_Max k _ _ _ _ h6) (.cons (.same (by simp [h2, h2_])) .nil) ?_
  try simp [h2, h2_]
  and_intros <;> first | exact g _ (by kernel_rfl) | refine r _ _ _ ?_ | omega | (simp [h2, h2_, maxLen] <;> omega)
  refine WK [(4, AV.ptr 1 0), (5, AV.slc 2 0 1 v9.length false), (6, Iz v10)] [(1, .cells [Iz v6, AV.lst false false (List.map api_Arc.av v7)]), (2, .grow (List.map (AV.int .i64) v9))] 3 (by simp [h2, h2_]) (by simp [h2, h2_]) ?_
  refine AW.frz 2 (o := .grow (List.map (AV.int .i64) v9)) (by simp [h2, h2_]) rfl [(5, Lz v9)] [] ⟨(.l (by simp) (by simp) (by simp) (by simp)), trivial⟩ trivial ?_
  refine WK [(4, AV.ptr 1 0), (5, Lz v9), (6, Iz v10)] [(1, .cells [Iz v6, AV.lst false false (List.map api_Arc.av v7)])] 3 (by simp [h2, h2_]) (by simp [h2, h2_]) ?_
  refine AW.seq fun K1388 hK1388 => ?_
  refine SQ [] [none, none, none, some (26, false), some (26, false), some (26, false), some (26, false), none] fun _ _ g r => ?_
  by_cases h7 : v10 ≠ 0
  ·replace hF := ite_t h7 hF
   have h7_ := eqb_f h7
   have h7__ := neb_t h7
   have F1 := And.intro h2 (And.intro h2_ (And.intro h7 (And.intro h7_ h7__)))
   try simp [F1]
   and_intros <;> first | exact g _ (by kernel_rfl) | refine r _ _ _ ?_ | omega | (simp [maxLen, F1] <;> omega)
   refine WK [(4, AV.ptr 1 0), (5, Lz v9), (31, AV.bool true)] [(1, .cells [Iz v6, AV.lst false false (List.map api_Arc.av v7)])] 3 (by simp [F1]) (by simp [F1]) ?_
   refine CT (by simp [F1]) ?_
   refine SQ [] [none] fun _ _ g r => ?_
   try simp [F1]
   and_intros <;> first | exact g _ (by kernel_rfl) | refine r _ _ _ ?_ | omega | (simp [maxLen, F1] <;> omega)
   refine WK [(2, AV.bool false)] [] 3 (by simp [F1]) (by simp [F1]) ?_
   simp only [Option.some.injEq] at hF
   subst hF
   refine AW.ret (hQ _ _ _ ?_ (matchO_0 ?_)).1
   ·simp [Try.f5, F1]
   ·simp [F1]
  ·replace hF := ite_f h7 hF
   have h7q : v10 = 0 := Classical.not_not.1 h7
   have h7_ := eqb_t h7q
   have h7__ := neb_f h7q
   have F2 := And.intro h2 (And.intro h2_ (And.intro h7_ (And.intro h7__ h7q)))
   try simp [F2]
   and_intros
   try any_goals first | omega | (simp [maxLen, F2] <;> omega)
   obtain ⟨v11, h8, hF⟩ := bnd1_elim hF
   refine AC (w_ref15_Valid k _ _ _ _ h8) (.cons (.same (by simp [F2])) (.cons (.same (by simp [F2])) .nil)) ?_
   try simp [F2]
   and_intros <;> first | exact g _ (by kernel_rfl) | refine r _ _ _ ?_ | omega | (simp [maxLen, F2] <;> omega)
   refine WK [(4, AV.ptr 1 0), (5, Lz v9), (31, AV.bool (!v11))] [(1, .cells [Iz v6, AV.lst false false (List.map api_Arc.av v7)])] 3 (by simp [F2]) (by simp [F2]) ?_
   by_cases h9 : (!v11) = true
   ·replace hF := ite_t h9 hF
    have h9_ := h9
    try simp at h9_
    have F3 := And.intro F2 (And.intro h9 h9_)
    refine CT (by simp [F3] <;> omega) ?_
    refine SQ [] [none] fun _ _ g r => ?_
    try simp [F3]
    and_intros <;> first | exact g _ (by kernel_rfl) | refine r _ _ _ ?_ | omega | (simp [maxLen, F3] <;> omega)
    refine WK [(2, AV.bool false)] [] 3 (by simp [F3]) (by simp [F3]) ?_
    simp only [Option.some.injEq] at hF
    subst hF
    refine AW.ret (hQ _ _ _ ?_ (matchO_0 ?_)).1
    ·simp [Try.f5, F3]
    ·simp [F3]
   ·replace hF := ite_f h9 hF
    have h9_ := h9
    try simp at h9_
    have F4 := And.intro F2 (And.intro h9 h9_)
    refine CF (by simp [F4] <;> omega) ?_
    refine AW.skip ?_
    refine hK1388 _ _ _ ?_
    refine SQ [] [none] fun _ _ g r => ?_
    try simp [F4]
    and_intros <;> first | exact g _ (by kernel_rfl) | refine r _ _ _ ?_ | omega | (simp [maxLen, F4] <;> omega)
    refine WK [(4, AV.ptr 1 0), (5, Lz v9), (7, Iz 1048576)] [(1, .cells [Iz v6, AV.lst false false (List.map api_Arc.av v7)])] 3 (by simp [F4]) (by simp [F4]) ?_
    refine AW.seq fun K2071 hK2071 => ?_
    refine SQ [] [none] fun _ _ g r => ?_
    try simp [F4]
    and_intros <;> first | exact g _ (by kernel_rfl) | refine r _ _ _ ?_ | omega | (simp [maxLen, F4] <;> omega)
    refine WK [(4, AV.ptr 1 0), (5, Lz v9), (7, Iz 1048576), (8, Iz 0)] [(1, .cells [Iz v6, AV.lst false false (List.map api_Arc.av v7)])] 3 (by simp [F4]) (by simp [F4]) ?_
    refine AW.block ?_
    refine RM h0 [(0, 1)] [(4, AV.ptr 0 0), (5, Lz v9), (7, Iz 1048576), (8, Iz 0)] [(0, .cells [Iz v6, AV.lst false false (List.map api_Arc.av v7)])] 1 (by simp [F4]) (by simp [F4]) ?_
    refine AW.loopF (α := (Int × Int)) (fun n (v12, v13) => law15_FlowLeast.L1 k v6 v7 v9 n v12 v13 = some v1) (fun (v12, v13) => [(4, AV.ptr 0 0), (5, Lz v9), (7, Iz v12), (8, Iz v13)]) (fun (v12, v13) => [(0, .cells [Iz v6, AV.lst false false (List.map api_Arc.av v7)])]) 1 k ((1048576, 0)) hF (by simp [F4]) (by simp [F4]) (by simp) ?_
    rintro (_|n1) ⟨v12, v13⟩ hF K2580 hK2580
    ·try dsimp only at hF
     rw [law15_FlowLeast.L1] at hF; cases hF
    try dsimp only at hF
    rw [law15_FlowLeast.L1] at hF
    refine AW.seq fun K2582 hK2582 => ?_
    refine SQ [] [none, none, none, none, none, none] fun _ _ g r => ?_
    obtain ⟨h10, hF⟩ := chk_elim hF
    try simp [F4, h10]
    and_intros <;> first | exact g _ (by kernel_rfl) | refine r _ _ _ ?_ | omega | (simp [maxLen, F4, h10] <;> omega)
    refine WK [(4, AV.ptr 0 0), (5, Lz v9), (7, Iz v12), (8, Iz v13), (37, AV.bool (decide (v13 < IntKind.wrap .i64 (1 * 2 ^ (min ((IntKind.wrap .u64 v6).toNat) 64)))))] [(0, .cells [Iz v6, AV.lst false false (List.map api_Arc.av v7)])] 1 (by simp [F4, h10]) (by simp [F4, h10]) ?_
    by_cases h11 : v13 < IntKind.wrap .i64 (1 * 2 ^ (min ((IntKind.wrap .u64 v6).toNat) 64))
    ·replace hF := ite_t h11 hF
     have h11_ := h11
     try simp at h11_
     have F5 := And.intro F4 (And.intro h10 (And.intro h11 h11_))
     refine CT (by simp [F5] <;> omega) ?_
     refine AW.skip ?_
     refine hK2582 _ _ _ ?_
     refine AW.midF (α := Int) (fun v14 => law15_FlowLeast.J2 k v13 (fun v12_ v13_ => law15_FlowLeast.L1 k v6 v7 v9 n1 v12_ v13_) v14 = some v1) (fun v14 => [(4, AV.ptr 0 0), (5, Lz v9), (7, Iz v14), (8, Iz v13)]) (fun v14 => [(0, .cells [Iz v6, AV.lst false false (List.map api_Arc.av v7)])]) 1 (fun K2667 hK2667 => ?_) ?_
     ·refine AW.block ?_
      refine AW.seq fun K2669 hK2669 => ?_
      refine SQ [] [none, none, none] fun _ _ g r => ?_
      try simp [F5]
      and_intros <;> first | exact g _ (by kernel_rfl) | refine r _ _ _ ?_ | omega | (simp [maxLen, F5] <;> omega)
      refine WK [(4, AV.ptr 0 0), (5, Lz v9), (7, Iz v12), (8, Iz v13), (42, AV.bool ((bitsV .and .i64 v13 3) != 1))] [(0, .cells [Iz v6, AV.lst false false (List.map api_Arc.av v7)])] 1 (by simp [F5]) (by simp [F5]) ?_
      by_cases h12 : (bitsV .and .i64 v13 3) ≠ 1
      ·replace hF := ite_t h12 hF
       have h12_ := eqb_f h12
       have h12__ := neb_t h12
       have F6 := And.intro F5 (And.intro h12 (And.intro h12_ h12__))
       refine CT (by simp [F6] <;> omega) ?_
       refine AW.exit ?_
       try simp
       refine hK2667 _ _ _ ?_
       exact JN (v12) hF (by simp [F6]) (by simp [F6])
      ·replace hF := ite_f h12 hF
       have h12q : (bitsV .and .i64 v13 3) = 1 := Classical.not_not.1 h12
       have h12_ := eqb_t h12q
       have h12__ := neb_f h12q
       have F7 := And.intro F5 (And.intro h12_ (And.intro h12__ h12q))
       refine CF (by simp [F7] <;> omega) ?_
       refine AW.skip ?_
       refine hK2669 _ _ _ ?_
       refine SQ [] [none] fun _ _ g r => ?_
       try simp [F7]
       and_intros <;> first | exact g _ (by kernel_rfl) | refine r _ _ _ ?_ | omega | (simp [maxLen, F7] <;> omega)
       refine WK [(4, AV.ptr 0 0), (5, Lz v9), (7, Iz v12), (8, Iz v13), (9, AV.lst true true (List.map (AV.int .i64) ([] : List Int)))] [(0, .cells [Iz v6, AV.lst false false (List.map api_Arc.av v7)])] 1 (by simp [F7]) (by simp [F7]) ?_
       refine AW.seq fun K2710 hK2710 => ?_
       refine SQ [] [none] fun _ _ g r => ?_
       try simp [F7]
       and_intros <;> first | exact g _ (by kernel_rfl) | refine r _ _ _ ?_ | omega | (simp [maxLen, F7] <;> omega)
       refine WK [(4, AV.ptr 0 0), (5, Lz v9), (7, Iz v12), (8, Iz v13), (9, AV.lst true true (List.map (AV.int .i64) ([] : List Int))), (10, Iz 0)] [(0, .cells [Iz v6, AV.lst false false (List.map api_Arc.av v7)])] 1 (by simp [F7]) (by simp [F7]) ?_
       refine AW.block ?_
       refine AW.own' 9 1 true (by simp [F7]) (by decide) ?_
       refine AW.loopF (α := (Int × (List Int))) (fun n (v15, v16) => law15_FlowLeast.L3 k v6 v7 v12 v13 (fun v12_ v13_ => law15_FlowLeast.L1 k v6 v7 v9 n1 v12_ v13_) n v15 v16 = some v1) (fun (v15, v16) => [(4, AV.ptr 0 0), (5, Lz v9), (7, Iz v12), (8, Iz v13), (9, AV.slc 1 0 1 v16.length false), (10, Iz v15)]) (fun (v15, v16) => [(0, .cells [Iz v6, AV.lst false false (List.map api_Arc.av v7)]), (1, .grow (List.map (AV.int .i64) v16))]) 2 k ((0, ([] : List Int))) hF (by simp [F7]) (by simp [F7]) (by simp) ?_
       rintro (_|n3) ⟨v15, v16⟩ hF K2739 hK2739
       ·try dsimp only at hF
        rw [law15_FlowLeast.L3] at hF; cases hF
       try dsimp only at hF
       rw [law15_FlowLeast.L3] at hF
       refine AW.seq fun K2741 hK2741 => ?_
       refine SQ [] [none, none, none, none] fun _ _ g r => ?_
       try simp [F7]
       and_intros <;> first | exact g _ (by kernel_rfl) | refine r _ _ _ ?_ | omega | (simp [maxLen, F7] <;> omega)
       refine WK [(4, AV.ptr 0 0), (5, Lz v9), (7, Iz v12), (8, Iz v13), (9, AV.slc 1 0 1 v16.length false), (10, Iz v15), (46, AV.bool (decide (v15 < v6)))] [(0, .cells [Iz v6, AV.lst false false (List.map api_Arc.av v7)]), (1, .grow (List.map (AV.int .i64) v16))] 2 (by simp [F7]) (by simp [F7]) ?_
       by_cases h13 : v15 < v6
       ·replace hF := ite_t h13 hF
        have h13_ := h13
        try simp at h13_
        have F8 := And.intro F7 (And.intro h13 h13_)
        refine CT (by simp [F8] <;> omega) ?_
        refine AW.skip ?_
        refine hK2741 _ _ _ ?_
        refine AW.midF (α := (List Int)) (fun v17 => law15_FlowLeast.J4 k v15 (fun v15_ v16_ => law15_FlowLeast.L3 k v6 v7 v12 v13 (fun v12_ v13_ => law15_FlowLeast.L1 k v6 v7 v9 n1 v12_ v13_) n3 v15_ v16_) v17 = some v1) (fun v17 => [(4, AV.ptr 0 0), (5, Lz v9), (7, Iz v12), (8, Iz v13), (9, AV.slc 1 0 1 v17.length false), (10, Iz v15)]) (fun v17 => [(0, .cells [Iz v6, AV.lst false false (List.map api_Arc.av v7)]), (1, .grow (List.map (AV.int .i64) v17))]) 2 (fun K2746 hK2746 => ?_) ?_
        ·refine AW.block ?_
         refine SQ [] [none, none, none, none, none, none] fun _ _ g r => ?_
         obtain ⟨h14, hF⟩ := chk_elim hF
         try simp [F8, h14]
         and_intros <;> first | exact g _ (by kernel_rfl) | refine r _ _ _ ?_ | omega | (simp [maxLen, F8, h14] <;> omega)
         refine WK [(4, AV.ptr 0 0), (5, Lz v9), (7, Iz v12), (8, Iz v13), (9, AV.slc 1 0 1 v16.length false), (10, Iz v15), (54, AV.bool ((bitsV .and .i64 (Int.fdiv v13 (2 ^ (min ((IntKind.wrap .u64 v15).toNat) 64))) 1) == 1))] [(0, .cells [Iz v6, AV.lst false false (List.map api_Arc.av v7)]), (1, .grow (List.map (AV.int .i64) v16))] 2 (by simp [F8, h14]) (by simp [F8, h14]) ?_
         by_cases h15 : (bitsV .and .i64 (Int.fdiv v13 (2 ^ (min ((IntKind.wrap .u64 v15).toNat) 64))) 1) = 1
         ·replace hF := ite_t h15 hF
          have h15q : (bitsV .and .i64 (Int.fdiv v13 (2 ^ (min ((IntKind.wrap .u64 v15).toNat) 64))) 1) = 1 := h15
          have h15_ := eqb_t h15q
          have h15__ := neb_f h15q
          refine CT (by simp [F8, h14, h15_, h15__, h15q] <;> omega) ?_
          refine RG [] [none, none, none, none, none] fun _ _ g r => ?_
          obtain ⟨h16, hF⟩ := chk_elim hF
          have h16_ := h16
          try simp at h16_
          have F9 := And.intro F8 (And.intro h14 (And.intro h15_ (And.intro h15__ (And.intro h15q h16))))
          try simp [F9]
          and_intros <;> first | exact g _ (by kernel_rfl) | refine r _ _ _ ?_ | omega | (simp [maxLen, F9] <;> omega)
          refine hK2746 _ _ _ ?_
          refine RN h0 [(0, 0), (1, 2)] [(4, AV.ptr 0 0), (5, Lz v9), (7, Iz v12), (8, Iz v13), (9, AV.slc 1 0 1 ((v16 ++ ([v15] : List Int)).length) false), (10, Iz v15)] [(0, .cells [Iz v6, AV.lst false false (List.map api_Arc.av v7)]), (1, .grow (List.map (AV.int .i64) (v16 ++ ([v15] : List Int))))] 2 (by simp [F9] <;> omega) (by simp [F9]) ?_
          exact JN (v16 ++ ([v15] : List Int)) hF (by simp [F9]) (by simp [F9])
         ·replace hF := ite_f h15 hF
          have h15_ := eqb_f h15
          have h15__ := neb_t h15
          have F10 := And.intro F8 (And.intro h14 (And.intro h15 (And.intro h15_ h15__)))
          refine CF (by simp [F10] <;> omega) ?_
          refine AW.skip ?_
          refine hK2746 _ _ _ ?_
          exact JN (v16) hF (by simp [F10]) (by simp [F10])
        ·rintro v17 hF
         try dsimp only at hF
         unfold law15_FlowLeast.J4 at hF
         refine RG [] [none, none, none] fun _ _ g r => ?_
         try simp [F8]
         and_intros <;> first | exact g _ (by kernel_rfl) | refine r _ _ _ ?_ | omega | (simp [maxLen, F8] <;> omega)
         refine hK2739 _ _ _ ?_
         exact NX (k' := n3) ((IntKind.wrap .i64 (v15 + 1), v17)) hF (by simp [F8]) (by simp [F8])
       ·replace hF := ite_f h13 hF
        have h13_ := h13
        try simp at h13_
        have F11 := And.intro F7 (And.intro h13 h13_)
        refine CF (by simp [F11] <;> omega) ?_
        refine AW.exit ?_
        try simp
        refine hK2710 _ _ _ ?_
        refine WK [(4, AV.ptr 0 0), (5, Lz v9), (7, Iz v12), (8, Iz v13), (9, AV.slc 1 0 1 v16.length false)] [(0, .cells [Iz v6, AV.lst false false (List.map api_Arc.av v7)]), (1, .grow (List.map (AV.int .i64) v16))] 2 (by simp [F11]) (by simp [F11]) ?_
        refine AW.frz 1 (o := .grow (List.map (AV.int .i64) v16)) (by simp [F11]) rfl [(9, Lz v16)] [] ⟨(.l (by simp) (by simp) (by simp) (by simp)), trivial⟩ trivial ?_
        refine WK [(4, AV.ptr 0 0), (5, Lz v9), (7, Iz v12), (8, Iz v13), (9, Lz v16)] [(0, .cells [Iz v6, AV.lst false false (List.map api_Arc.av v7)])] 2 (by simp [F11]) (by simp [F11]) ?_
        refine RG [] [none, none, none, none, none, none] fun _ _ g r => ?_
        try simp [F11]
        and_intros
        try any_goals first | omega | (simp [maxLen, F11] <;> omega)
        obtain ⟨v18, h17, hF⟩ := bnd1_elim hF
        refine AC (w_law15_leaves k _ _ _ _ h17) (.cons (.same (by simp [F11])) (.cons (.same (by simp [F11])) .nil)) ?_
        obtain ⟨v19, h18, hF⟩ := let1_elim hF
        have h18_ := h18
        try simp at h18_
        have F12 := And.intro F11 (And.intro h18 h18_)
        try simp [F12]
        and_intros <;> first | exact g _ (by kernel_rfl) | refine r _ _ _ ?_ | omega | (simp [maxLen, F12] <;> omega)
        refine hK2667 _ _ _ ?_
        refine RN h0 [(0, 0)] [(4, AV.ptr 0 0), (5, Lz v9), (7, Iz v19), (8, Iz v13)] [(0, .cells [Iz v6, AV.lst false false (List.map api_Arc.av v7)])] 1 (by simp [F12]) (by simp [F12]) ?_
        exact JN (v19) hF (by simp [F12]) (by simp [F12])
     ·rintro v14 hF
      try dsimp only at hF
      unfold law15_FlowLeast.J2 at hF
      refine RG [] [none, none, none] fun _ _ g r => ?_
      try simp [F5]
      and_intros <;> first | exact g _ (by kernel_rfl) | refine r _ _ _ ?_ | omega | (simp [maxLen, F5] <;> omega)
      refine hK2580 _ _ _ ?_
      exact NX (k' := n1) ((v14, IntKind.wrap .i64 (v13 + 1))) hF (by simp [F5]) (by simp [F5])
    ·replace hF := ite_f h11 hF
     have h11_ := h11
     try simp at h11_
     have F13 := And.intro F4 (And.intro h10 (And.intro h11 h11_))
     refine CF (by simp [F13] <;> omega) ?_
     refine AW.exit ?_
     try simp
     refine hK2071 _ _ _ ?_
     refine SQ [] [none, none, some (65, true), some (65, true), some (65, true), some (65, true), some (65, true), none, none] fun _ _ g r => ?_
     try simp [F13]
     and_intros
     try any_goals first | omega | (simp [maxLen, F13] <;> omega)
     obtain ⟨v20, h19, hF⟩ := bnd1_elim hF
     refine AC (w_law15_awake k _ h19) .nil ?_
     by_cases h20 : v20 = true
     ·replace hF := ite_t h20 hF
      have h20_ := h20
      try simp at h20_
      have F14 := And.intro F13 (And.intro h20 h20_)
      try simp [F14]
      and_intros
      try any_goals first | omega | (simp [maxLen, F14] <;> omega)
      obtain ⟨v21, h21, hF⟩ := bnd1_elim hF
      refine AC (w_flow_Value k _ _ _ _ h21) (.cons (.same (by simp [F14])) (.cons (.same (by simp [F14])) .nil)) ?_
      try simp [F14]
      and_intros <;> first | exact g _ (by kernel_rfl) | refine r _ _ _ ?_ | omega | (simp [maxLen, F14] <;> omega)
      refine WK [(2, AV.bool (v21 == v12))] [] 1 (by simp [F14]) (by simp [F14]) ?_
      simp only [Option.some.injEq] at hF
      subst hF
      refine AW.ret (hQ _ _ _ ?_ (matchO_0 ?_)).1
      ·simp [Try.f5, F14]
      ·simp [F14]
     ·replace hF := ite_f h20 hF
      have h20_ := h20
      try simp at h20_
      have F15 := And.intro F13 (And.intro h20 h20_)
      try simp [F15]
      and_intros <;> first | exact g _ (by kernel_rfl) | refine r _ _ _ ?_ | omega | (simp [maxLen, F15] <;> omega)
      refine WK [(2, AV.bool false)] [] 1 (by simp [F15]) (by simp [F15]) ?_
      simp only [Option.some.injEq] at hF
      subst hF
      refine AW.ret (hQ _ _ _ ?_ (matchO_0 ?_)).1
      ·simp [Try.f5, F15]
      ·simp [F15]
end Go.TF
