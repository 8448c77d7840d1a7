/- Walks: the Go text computes the Lean functions (printed by a program of our own). -/
import Derived.Test.YtmiimcogppdepaaMaPu
import Derived.Test.YtmiimcogppdepaaMaAbsT
import Derived.Test.YtmiimcogppdepaaMaWa0
import Derived.Test.YtmiimcogppdepaaMaWa1
import Derived.Test.YtmiimcogppdepaaMaWa2
import Derived.Test.YtmiimcogppdepaaMaWa3
import Derived.Test.YtmiimcogppdepaaMaWa4
set_option linter.unusedVariables false
set_option linter.unusedSimpArgs false
set_option maxRecDepth 100000
set_option maxHeartbeats 4000000
namespace Go.TF
open Go Go.Abs Go.Proofs Go.Proofs.YtmiimcogppdepaaMaT
theorem w_ref13_Of (k : Nat) (v0 : (List Int)) (v1 : (List Int)) (v2 : Int) (v3 : Int) (v4 : Int) (hF : ref13_Of k v0 v1 v2 v3 = some v4) :
  FCall Try.prog 14 [AV.agg [AV.lst false false (List.map (AV.int .i64) v0), AV.lst false false (List.map (AV.int .i64) v1), AV.int .i64 v2], AV.int .i64 v3] [] (AV.int .i64 v4) [] := by
 unfold ref13_Of at hF
 refine EN Try.func14 ?_
 intro c0 w0 Q h0 hQ
 refine WK [(0, AV.agg [Lz v0, Lz v1, Iz v2]), (1, Iz v3)] [] 0 (by simp) (by simp) ?_
 refine SQ [] [none, none] fun _ _ g r => ?_
 try simp
 and_intros <;> first | exact g _ (by kernel_rfl) | refine r _ _ _ ?_ | omega | (simp [maxLen] <;> omega)
 refine WK [(1, Iz v3), (2, AV.ptr 0 0)] [(0, .cells [Lz v0, Lz v1, Iz v2])] 1 (by simp) (by simp) ?_
 refine AW.seq fun K16 hK16 => ?_
 refine SQ [] [none, none] fun _ _ g r => ?_
 try simp
 and_intros <;> first | exact g _ (by kernel_rfl) | refine r _ _ _ ?_ | omega | (simp [maxLen] <;> omega)
 refine WK [(1, Iz v3), (2, AV.ptr 0 0), (6, AV.bool (decide (v3 < 0)))] [(0, .cells [Lz v0, Lz v1, Iz v2])] 1 (by simp) (by simp) ?_
 by_cases h1 : v3 < 0
 ·replace hF := ite_t h1 hF
  have h1_ := h1
  try simp at h1_
  refine CT (by simp [h1, h1_] <;> omega) ?_
  refine SQ [] [none] fun _ _ g r => ?_
  try simp [h1, h1_]
  and_intros <;> first | exact g _ (by kernel_rfl) | refine r _ _ _ ?_ | omega | (simp [h1, h1_, maxLen] <;> omega)
  refine WK [(4, Iz 0)] [] 1 (by simp [h1, h1_]) (by simp [h1, h1_]) ?_
  simp only [Option.some.injEq] at hF
  subst hF
  refine AW.ret (hQ _ _ _ ?_ (matchO_0 ?_)).1
  ·simp [Try.f14, h1, h1_]
  ·simp [h1, h1_]
 ·replace hF := ite_f h1 hF
  have h1_ := h1
  try simp at h1_
  refine CF (by simp [h1, h1_] <;> omega) ?_
  refine AW.skip ?_
  refine hK16 _ _ _ ?_
  refine AW.seq fun K21 hK21 => ?_
  refine SQ [] [none, none, none, none, none] fun _ _ g r => ?_
  try simp [h1, h1_]
  and_intros <;> first | exact g _ (by kernel_rfl) | refine r _ _ _ ?_ | omega | (simp [h1, h1_, maxLen] <;> omega)
  refine WK [(1, Iz v3), (2, AV.ptr 0 0), (11, AV.bool (decide (v3 < (v1.length : Int))))] [(0, .cells [Lz v0, Lz v1, Iz v2])] 1 (by simp [h1, h1_]) (by simp [h1, h1_]) ?_
  by_cases h2 : v3 < (v1.length : Int)
  ·replace hF := ite_t h2 hF
   have h2_ := h2
   try simp at h2_
   have F1 := And.intro h1 (And.intro h1_ (And.intro h2 h2_))
   refine CT (by simp [F1] <;> omega) ?_
   refine SQ [] [none, none, none, none, none, none] fun _ _ g r => ?_
   obtain ⟨v5, h3, h4, h5, hF⟩ := idx_elim hF
   have h5_ := get_of h5
   try simp at h5_
   have h4_ := h4
   try simp at h4_
   have F2 := And.intro F1 (And.intro h3 (And.intro h4 (And.intro h5 (And.intro h5_ h4_))))
   try simp [F2]
   and_intros <;> first | exact g _ (by kernel_rfl) | refine r _ _ _ ?_ | omega | (simp [maxLen, F2] <;> omega)
   refine WK [(4, Iz v5)] [] 1 (by simp [F2]) (by simp [F2]) ?_
   simp only [Option.some.injEq] at hF
   subst hF
   refine AW.ret (hQ _ _ _ ?_ (matchO_0 ?_)).1
   ·simp [Try.f14, F2]
   ·simp [F2]
  ·replace hF := ite_f h2 hF
   have h2_ := h2
   try simp at h2_
   have F3 := And.intro h1 (And.intro h1_ (And.intro h2 h2_))
   refine CF (by simp [F3] <;> omega) ?_
   refine AW.skip ?_
   refine hK21 _ _ _ ?_
   refine SQ [] [none] fun _ _ g r => ?_
   try simp [F3]
   and_intros <;> first | exact g _ (by kernel_rfl) | refine r _ _ _ ?_ | omega | (simp [maxLen, F3] <;> omega)
   refine WK [(4, Iz 1)] [] 1 (by simp [F3]) (by simp [F3]) ?_
   simp only [Option.some.injEq] at hF
   subst hF
   refine AW.ret (hQ _ _ _ ?_ (matchO_0 ?_)).1
   ·simp [Try.f14, F3]
   ·simp [F3]
theorem w_ref13_All (k : Nat) (v0 : Int) (v1 : (List api_Edge)) (v2 : (List Int)) (v3 : (List Int)) (v4 : (List Int)) (v5 : Int) (v6 : (List Int)) (hF : ref13_All k v0 v1 v2 v3 v4 v5 = some v6) :
  FCall Try.prog 34 [AV.agg [AV.int .i64 v0, AV.lst false false (List.map api_Edge.av v1), AV.lst false false (List.map (AV.int .i64) v2)], AV.agg [AV.lst false false (List.map (AV.int .i64) v3), AV.lst false false (List.map (AV.int .i64) v4), AV.int .i64 v5]] [] (AV.slc 0 0 1 v6.length false) [some (.grow (List.map (AV.int .i64) v6))] := by
 unfold ref13_All at hF
 refine EN Try.func34 ?_
 intro c0 w0 Q h0 hQ
 refine WK [(0, AV.agg [Iz v0, AV.lst false false (List.map api_Edge.av v1), Lz v2]), (1, AV.agg [Lz v3, Lz v4, Iz v5])] [] 0 (by simp) (by simp) ?_
 refine SQ [] [none, none, none] fun _ _ g r => ?_
 try simp
 and_intros <;> first | exact g _ (by kernel_rfl) | refine r _ _ _ ?_ | omega | (simp [maxLen] <;> omega)
 refine WK [(2, AV.ptr 0 0), (3, AV.ptr 1 0)] [(0, .cells [Iz v0, AV.lst false false (List.map api_Edge.av v1), Lz v2]), (1, .cells [Lz v3, Lz v4, Iz v5])] 2 (by simp) (by simp) ?_
 refine SQ [] [none, none, none, none, none, none, none, none] fun _ _ g r => ?_
 try simp
 and_intros
 try any_goals first | omega | (simp [maxLen] <;> omega)
 obtain ⟨v7, v8, v9, h1, hF⟩ := bnd3_elim hF
 refine AC (w_ref11_Level k _ _ _ _ _ _ _ h1) (.cons (.same (by simp)) (.cons (.same (by simp)) .nil)) ?_
 try simp
 and_intros
 try any_goals first | omega | (simp [maxLen] <;> omega)
 obtain ⟨v10, h2, hF⟩ := bnd1_elim hF
 refine aCall_l (w_ref12_All k _ _ _ _ _ h2) (by simp) [] [2] [] rfl (.cons (.agg (.cons (.same (by simp)) (.cons (Coe.l (o := .grow (flatA (List.map api_Edge.av v8))) (by simp) rfl (by simp) (by simp [noIdsL]) (by simp) (by simp)) (.cons (.same (by simp)) .nil)))) (.cons (.same (by simp)) .nil)) (by simp) (by decide) (by simp) (by simp) (.inr ⟨by simp, by simp⟩) (by simp) (by simp) ?_
 try simp
 and_intros <;> first | exact g _ (by kernel_rfl) | refine r _ _ _ ?_ | omega | (simp [maxLen] <;> omega)
 refine WK [(3, AV.ptr 1 0), (5, AV.slc 3 0 1 v10.length false)] [(1, .cells [Lz v3, Lz v4, Iz v5]), (3, .grow (List.map (AV.int .i64) v10))] 4 (by simp) (by simp) ?_
 refine AW.frz 3 (o := .grow (List.map (AV.int .i64) v10)) (by simp) rfl [(5, Lz v10)] [] ⟨(.l (by simp) (by simp) (by simp) (by simp)), trivial⟩ trivial ?_
 refine WK [(3, AV.ptr 1 0), (5, Lz v10)] [(1, .cells [Lz v3, Lz v4, Iz v5])] 4 (by simp) (by simp) ?_
 refine SQ [] [none] fun _ _ g r => ?_
 try simp
 and_intros <;> first | exact g _ (by kernel_rfl) | refine r _ _ _ ?_ | omega | (simp [maxLen] <;> omega)
 refine WK [(3, AV.ptr 1 0), (5, Lz v10), (6, AV.lst true true (List.map (AV.int .i64) ([] : List Int)))] [(1, .cells [Lz v3, Lz v4, Iz v5])] 4 (by simp) (by simp) ?_
 refine AW.seq fun K99 hK99 => ?_
 refine SQ [] [none] fun _ _ g r => ?_
 try simp
 and_intros <;> first | exact g _ (by kernel_rfl) | refine r _ _ _ ?_ | omega | (simp [maxLen] <;> omega)
 refine WK [(3, AV.ptr 1 0), (5, Lz v10), (6, AV.lst true true (List.map (AV.int .i64) ([] : List Int))), (7, Iz 0)] [(1, .cells [Lz v3, Lz v4, Iz v5])] 4 (by simp) (by simp) ?_
 refine AW.block ?_
 refine AW.own' 6 1 true (by simp) (by decide) ?_
 refine RM h0 [(0, 1), (1, 4)] [(3, AV.ptr 0 0), (5, Lz v10), (6, AV.slc 1 0 1 (([] : List Int).length) false), (7, Iz 0)] [(0, .cells [Lz v3, Lz v4, Iz v5]), (1, .grow (List.map (AV.int .i64) ([] : List Int)))] 2 (by simp) (by simp) ?_
 refine AW.loopF (α := (Int × (List Int))) (fun n (v11, v12) => ref13_All.L1 k v3 v4 v5 v10 n v11 v12 = some v6) (fun (v11, v12) => [(3, AV.ptr 0 0), (5, Lz v10), (6, AV.slc 1 0 1 v12.length false), (7, Iz v11)]) (fun (v11, v12) => [(0, .cells [Lz v3, Lz v4, Iz v5]), (1, .grow (List.map (AV.int .i64) v12))]) 2 k ((0, ([] : List Int))) hF (by simp) (by simp) (by simp) ?_
 rintro (_|n1) ⟨v11, v12⟩ hF K122 hK122
 ·try dsimp only at hF
  rw [ref13_All.L1] at hF; cases hF
 try dsimp only at hF
 rw [ref13_All.L1] at hF
 refine AW.seq fun K124 hK124 => ?_
 refine SQ [] [none, none, none, none] fun _ _ g r => ?_
 try simp
 and_intros <;> first | exact g _ (by kernel_rfl) | refine r _ _ _ ?_ | omega | (simp [maxLen] <;> omega)
 refine WK [(3, AV.ptr 0 0), (5, Lz v10), (6, AV.slc 1 0 1 v12.length false), (7, Iz v11), (18, AV.bool (decide (v11 < (v10.length : Int))))] [(0, .cells [Lz v3, Lz v4, Iz v5]), (1, .grow (List.map (AV.int .i64) v12))] 2 (by simp) (by simp) ?_
 by_cases h3 : v11 < (v10.length : Int)
 ·replace hF := ite_t h3 hF
  have h3_ := h3
  try simp at h3_
  refine CT (by simp [h3, h3_] <;> omega) ?_
  refine AW.skip ?_
  refine hK124 _ _ _ ?_
  refine AW.seq fun K127 hK127 => ?_
  refine AW.block ?_
  refine RG [] [none, none, none, none, none, none, none, none, none, none] fun _ _ g r => ?_
  obtain ⟨v13, h4, h5, h6, hF⟩ := idx_elim hF
  have h6_ := get_of h6
  try simp at h6_
  have h5_ := h5
  try simp at h5_
  have F1 := And.intro h3 (And.intro h3_ (And.intro h4 (And.intro h5 (And.intro h6 (And.intro h6_ h5_)))))
  try simp [F1]
  and_intros
  try any_goals first | omega | (simp [maxLen, F1] <;> omega)
  obtain ⟨v14, h7, hF⟩ := bnd1_elim hF
  refine AC (w_ref13_Of k _ _ _ _ _ h7) (.cons (.same (by simp [F1])) (.cons (.same (by simp [F1])) .nil)) ?_
  obtain ⟨h8, hF⟩ := chk_elim hF
  have h8_ := h8
  try simp at h8_
  have F2 := And.intro F1 h8
  try simp [F2]
  and_intros <;> first | exact g _ (by kernel_rfl) | refine r _ _ _ ?_ | omega | (simp [maxLen, F2] <;> omega)
  refine hK127 _ _ _ ?_
  refine WK [(3, AV.ptr 0 0), (5, Lz v10), (6, AV.slc 2 0 1 ((v12 ++ ([v14] : List Int)).length) false), (7, Iz v11)] [(0, .cells [Lz v3, Lz v4, Iz v5]), (2, .grow (List.map (AV.int .i64) (v12 ++ ([v14] : List Int))))] 3 (by simp [F2] <;> omega) (by simp [F2]) ?_
  refine RG [] [none, none, none] fun _ _ g r => ?_
  try simp [F2]
  and_intros <;> first | exact g _ (by kernel_rfl) | refine r _ _ _ ?_ | omega | (simp [maxLen, F2] <;> omega)
  refine hK122 _ _ _ ?_
  refine RN h0 [(0, 0), (1, 2)] [(3, AV.ptr 0 0), (5, Lz v10), (6, AV.slc 1 0 1 ((v12 ++ ([v14] : List Int)).length) false), (7, Iz (IntKind.wrap .i64 (v11 + 1)))] [(0, .cells [Lz v3, Lz v4, Iz v5]), (1, .grow (List.map (AV.int .i64) (v12 ++ ([v14] : List Int))))] 2 (by simp [F2] <;> omega) (by simp [F2]) ?_
  exact NX (k' := n1) ((IntKind.wrap .i64 (v11 + 1), v12 ++ ([v14] : List Int))) hF (by simp [F2]) (by simp [F2])
 ·replace hF := ite_f h3 hF
  have h3_ := h3
  try simp at h3_
  refine CF (by simp [h3, h3_] <;> omega) ?_
  refine AW.exit ?_
  try simp
  refine hK99 _ _ _ ?_
  refine SQ [] [none, none] fun _ _ g r => ?_
  try simp [h3, h3_]
  and_intros <;> first | exact g _ (by kernel_rfl) | refine r _ _ _ ?_ | omega | (simp [h3, h3_, maxLen] <;> omega)
  refine RM h0 [(0, 1)] [(4, AV.slc 0 0 1 v12.length false)] [(0, .grow (List.map (AV.int .i64) v12))] 1 (by simp [h3, h3_]) (by simp [h3, h3_]) ?_
  simp only [Option.some.injEq] at hF
  subst hF
  refine AW.ret (hQ _ _ _ ?_ (matchO_0 ?_)).1
  ·simp [Try.f34, h3, h3_]
  ·simp [h3, h3_]
theorem w_ref03_SameInts (k : Nat) (v0 : (List Int)) (v1 : (List Int)) (v2 : Bool) (hF : ref03_SameInts k v0 v1 = some v2) :
  FCall Try.prog 38 [AV.lst false false (List.map (AV.int .i64) v0), AV.lst false false (List.map (AV.int .i64) v1)] [] (AV.bool v2) [] := by
 unfold ref03_SameInts at hF
 refine EN Try.func38 ?_
 intro c0 w0 Q h0 hQ
 refine WK [(0, Lz v0), (1, Lz v1)] [] 0 (by simp) (by simp) ?_
 refine SQ [] [none] fun _ _ g r => ?_
 try simp
 and_intros <;> first | exact g _ (by kernel_rfl) | refine r _ _ _ ?_ | omega | (simp [maxLen] <;> omega)
 refine WK [(0, Lz v0), (1, Lz v1)] [] 0 (by simp) (by simp) ?_
 refine AW.seq fun K88 hK88 => ?_
 refine SQ [] [none, none, none, none, none] fun _ _ g r => ?_
 try simp
 and_intros <;> first | exact g _ (by kernel_rfl) | refine r _ _ _ ?_ | omega | (simp [maxLen] <;> omega)
 refine WK [(0, Lz v0), (1, Lz v1), (10, AV.bool ((v0.length : Int) != (v1.length : Int)))] [] 0 (by simp) (by simp) ?_
 by_cases h1 : (v0.length : Int) ≠ (v1.length : Int)
 ·replace hF := ite_t h1 hF
  have h1_ := eqb_f h1
  have h1__ := neb_t h1
  have F1 := And.intro h1 (And.intro h1_ h1__)
  refine CT (by simp [F1] <;> omega) ?_
  refine SQ [] [none] fun _ _ g r => ?_
  try simp [F1]
  and_intros <;> first | exact g _ (by kernel_rfl) | refine r _ _ _ ?_ | omega | (simp [maxLen, F1] <;> omega)
  refine WK [(4, AV.bool false)] [] 0 (by simp [F1]) (by simp [F1]) ?_
  simp only [Option.some.injEq] at hF
  subst hF
  refine AW.ret (hQ _ _ _ ?_ (matchO_0 ?_)).1
  ·simp [Try.f38, F1]
  ·simp [F1]
 ·replace hF := ite_f h1 hF
  have h1q : (v0.length : Int) = (v1.length : Int) := Classical.not_not.1 h1
  have h1_ := eqb_t h1q
  have h1__ := neb_f h1q
  refine CF (by simp [h1_, h1__] <;> omega) ?_
  refine AW.skip ?_
  refine hK88 _ _ _ ?_
  refine AW.seq fun K129 hK129 => ?_
  refine SQ [] [none] fun _ _ g r => ?_
  try simp [h1_, h1__]
  and_intros <;> first | exact g _ (by kernel_rfl) | refine r _ _ _ ?_ | omega | (simp [h1_, h1__, maxLen] <;> omega)
  refine WK [(0, Lz v0), (1, Lz v1), (5, Iz 0)] [] 0 (by simp [h1_, h1__]) (by simp [h1_, h1__]) ?_
  refine AW.block ?_
  refine AW.loopF (α := Int) (fun n v3 => ref03_SameInts.L1 k v0 v1 n v3 = some v2) (fun v3 => [(0, Lz v0), (1, Lz v1), (5, Iz v3)]) (fun v3 => []) 0 k (0) hF (by simp [h1_, h1__]) (by simp [h1_, h1__]) (by simp) ?_
  rintro (_|n1) v3 hF K158 hK158
  ·try dsimp only at hF
   rw [ref03_SameInts.L1] at hF; cases hF
  try dsimp only at hF
  rw [ref03_SameInts.L1] at hF
  refine AW.seq fun K160 hK160 => ?_
  refine SQ [] [none, none, none, none] fun _ _ g r => ?_
  try simp [h1_, h1__]
  and_intros <;> first | exact g _ (by kernel_rfl) | refine r _ _ _ ?_ | omega | (simp [h1_, h1__, maxLen] <;> omega)
  refine WK [(0, Lz v0), (1, Lz v1), (5, Iz v3), (14, AV.bool (decide (v3 < (v0.length : Int))))] [] 0 (by simp [h1_, h1__]) (by simp [h1_, h1__]) ?_
  by_cases h2 : v3 < (v0.length : Int)
  ·replace hF := ite_t h2 hF
   have h2_ := h2
   try simp at h2_
   have F2 := And.intro h1_ (And.intro h1__ (And.intro h2 h2_))
   refine CT (by simp [F2] <;> omega) ?_
   refine AW.skip ?_
   refine hK160 _ _ _ ?_
   refine AW.seq fun K164 hK164 => ?_
   refine AW.block ?_
   refine SQ [] [none, none, none, none, none, none, none, none, none] fun _ _ g r => ?_
   obtain ⟨v4, h3, h4, h5, hF⟩ := idx_elim hF
   have h5_ := get_of h5
   try simp at h5_
   have h4_ := h4
   try simp at h4_
   obtain ⟨v5, h6, h7, h8, hF⟩ := idx_elim hF
   have h8_ := get_of h8
   try simp at h8_
   have h7_ := h7
   try simp at h7_
   have F3 := And.intro F2 (And.intro h3 (And.intro h4 (And.intro h5 (And.intro h5_ (And.intro h4_ (And.intro h6 (And.intro h7 (And.intro h8 (And.intro h8_ h7_)))))))))
   try simp [F3]
   and_intros <;> first | exact g _ (by kernel_rfl) | refine r _ _ _ ?_ | omega | (simp [maxLen, F3] <;> omega)
   refine WK [(0, Lz v0), (1, Lz v1), (5, Iz v3), (25, AV.bool (v4 != v5))] [] 0 (by simp [F3]) (by simp [F3]) ?_
   by_cases h9 : v4 ≠ v5
   ·replace hF := ite_t h9 hF
    have h9_ := eqb_f h9
    have h9__ := neb_t h9
    have F4 := And.intro F3 (And.intro h9 (And.intro h9_ h9__))
    refine CT (by simp [F4] <;> omega) ?_
    refine SQ [] [none] fun _ _ g r => ?_
    try simp [F4]
    and_intros <;> first | exact g _ (by kernel_rfl) | refine r _ _ _ ?_ | omega | (simp [maxLen, F4] <;> omega)
    refine WK [(4, AV.bool false)] [] 0 (by simp [F4]) (by simp [F4]) ?_
    simp only [Option.some.injEq] at hF
    subst hF
    refine AW.ret (hQ _ _ _ ?_ (matchO_0 ?_)).1
    ·simp [Try.f38, F4]
    ·simp [F4]
   ·replace hF := ite_f h9 hF
    have h9q : v4 = v5 := Classical.not_not.1 h9
    have h9_ := eqb_t h9q
    have h9__ := neb_f h9q
    have F5 := And.intro F3 (And.intro h9_ h9__)
    refine CF (by simp [F5] <;> omega) ?_
    refine AW.skip ?_
    refine hK164 _ _ _ ?_
    refine RG [] [none, none, none] fun _ _ g r => ?_
    try simp [F5]
    and_intros <;> first | exact g _ (by kernel_rfl) | refine r _ _ _ ?_ | omega | (simp [maxLen, F5] <;> omega)
    refine hK158 _ _ _ ?_
    exact NX (k' := n1) (IntKind.wrap .i64 (v3 + 1)) hF (by simp [F5]) (by simp [F5])
  ·replace hF := ite_f h2 hF
   have h2_ := h2
   try simp at h2_
   have F6 := And.intro h1_ (And.intro h1__ (And.intro h2 h2_))
   refine CF (by simp [F6] <;> omega) ?_
   refine AW.exit ?_
   try simp
   refine hK129 _ _ _ ?_
   refine SQ [] [none] fun _ _ g r => ?_
   try simp [F6]
   and_intros <;> first | exact g _ (by kernel_rfl) | refine r _ _ _ ?_ | omega | (simp [maxLen, F6] <;> omega)
   refine WK [(4, AV.bool true)] [] 0 (by simp [F6]) (by simp [F6]) ?_
   simp only [Option.some.injEq] at hF
   subst hF
   refine AW.ret (hQ _ _ _ ?_ (matchO_0 ?_)).1
   ·simp [Try.f38, F6]
   ·simp [F6]
theorem w_ref13_Bound (k : Nat) (v0 : Int) (v1 : (List api_Edge)) (v2 : (List Int)) (v3 : (List Int)) (v4 : (List Int)) (v5 : Int) (v6 : (List Int)) (v7 : Int) (hF : ref13_Bound k v0 v1 v2 v3 v4 v5 v6 = some v7) :
  FCall Try.prog 39 [AV.agg [AV.int .i64 v0, AV.lst false false (List.map api_Edge.av v1), AV.lst false false (List.map (AV.int .i64) v2)], AV.agg [AV.lst false false (List.map (AV.int .i64) v3), AV.lst false false (List.map (AV.int .i64) v4), AV.int .i64 v5], AV.lst false false (List.map (AV.int .i64) v6)] [] (AV.int .i64 v7) [] := by
 unfold ref13_Bound at hF
 refine EN Try.func39 ?_
 intro c0 w0 Q h0 hQ
 refine WK [(0, AV.agg [Iz v0, AV.lst false false (List.map api_Edge.av v1), Lz v2]), (1, AV.agg [Lz v3, Lz v4, Iz v5]), (2, Lz v6)] [] 0 (by simp) (by simp) ?_
 refine SQ [] [none, none, none] fun _ _ g r => ?_
 try simp
 and_intros <;> first | exact g _ (by kernel_rfl) | refine r _ _ _ ?_ | omega | (simp [maxLen] <;> omega)
 refine WK [(2, Lz v6), (3, AV.ptr 0 0), (4, AV.ptr 1 0)] [(0, .cells [Iz v0, AV.lst false false (List.map api_Edge.av v1), Lz v2]), (1, .cells [Lz v3, Lz v4, Iz v5])] 2 (by simp) (by simp) ?_
 refine SQ [] [none, none, none, none] fun _ _ g r => ?_
 try simp
 and_intros
 try any_goals first | omega | (simp [maxLen] <;> omega)
 obtain ⟨v8, h1, hF⟩ := bnd1_elim hF
 refine AC (w_ref13_All k _ _ _ _ _ _ _ h1) (.cons (.same (by simp)) (.cons (.same (by simp)) .nil)) ?_
 try simp
 and_intros <;> first | exact g _ (by kernel_rfl) | refine r _ _ _ ?_ | omega | (simp [maxLen] <;> omega)
 refine WK [(2, Lz v6), (3, AV.ptr 0 0), (4, AV.ptr 1 0), (7, AV.slc 2 0 1 v8.length false)] [(0, .cells [Iz v0, AV.lst false false (List.map api_Edge.av v1), Lz v2]), (1, .cells [Lz v3, Lz v4, Iz v5]), (2, .grow (List.map (AV.int .i64) v8))] 3 (by simp) (by simp) ?_
 refine AW.frz 2 (o := .grow (List.map (AV.int .i64) v8)) (by simp) rfl [(7, Lz v8)] [] ⟨(.l (by simp) (by simp) (by simp) (by simp)), trivial⟩ trivial ?_
 refine WK [(2, Lz v6), (3, AV.ptr 0 0), (4, AV.ptr 1 0), (7, Lz v8)] [(0, .cells [Iz v0, AV.lst false false (List.map api_Edge.av v1), Lz v2]), (1, .cells [Lz v3, Lz v4, Iz v5])] 3 (by simp) (by simp) ?_
 refine SQ [] [none] fun _ _ g r => ?_
 try simp
 and_intros <;> first | exact g _ (by kernel_rfl) | refine r _ _ _ ?_ | omega | (simp [maxLen] <;> omega)
 refine WK [(2, Lz v6), (3, AV.ptr 0 0), (4, AV.ptr 1 0), (7, Lz v8), (8, Iz 0)] [(0, .cells [Iz v0, AV.lst false false (List.map api_Edge.av v1), Lz v2]), (1, .cells [Lz v3, Lz v4, Iz v5])] 3 (by simp) (by simp) ?_
 refine AW.seq fun K2307 hK2307 => ?_
 refine SQ [] [none] fun _ _ g r => ?_
 try simp
 and_intros <;> first | exact g _ (by kernel_rfl) | refine r _ _ _ ?_ | omega | (simp [maxLen] <;> omega)
 refine WK [(2, Lz v6), (3, AV.ptr 0 0), (4, AV.ptr 1 0), (7, Lz v8), (8, Iz 0), (9, Iz 0)] [(0, .cells [Iz v0, AV.lst false false (List.map api_Edge.av v1), Lz v2]), (1, .cells [Lz v3, Lz v4, Iz v5])] 3 (by simp) (by simp) ?_
 refine AW.block ?_
 refine RM h0 [(0, 0), (1, 1)] [(2, Lz v6), (3, AV.ptr 0 0), (4, AV.ptr 1 0), (7, Lz v8), (8, Iz 0), (9, Iz 0)] [(0, .cells [Iz v0, AV.lst false false (List.map api_Edge.av v1), Lz v2]), (1, .cells [Lz v3, Lz v4, Iz v5])] 2 (by simp) (by simp) ?_
 refine AW.loopF (α := (Int × Int)) (fun n (v9, v10) => ref13_Bound.L1 k v0 v1 v3 v5 v6 v8 n v9 v10 = some v7) (fun (v9, v10) => [(2, Lz v6), (3, AV.ptr 0 0), (4, AV.ptr 1 0), (7, Lz v8), (8, Iz v9), (9, Iz v10)]) (fun (v9, v10) => [(0, .cells [Iz v0, AV.lst false false (List.map api_Edge.av v1), Lz v2]), (1, .cells [Lz v3, Lz v4, Iz v5])]) 2 k ((0, 0)) hF (by simp) (by simp) (by simp) ?_
 rintro (_|n1) ⟨v9, v10⟩ hF K2882 hK2882
 ·try dsimp only at hF
  rw [ref13_Bound.L1] at hF; cases hF
 try dsimp only at hF
 rw [ref13_Bound.L1] at hF
 refine AW.seq fun K2884 hK2884 => ?_
 refine SQ [] [none, none, none, none] fun _ _ g r => ?_
 try simp
 and_intros <;> first | exact g _ (by kernel_rfl) | refine r _ _ _ ?_ | omega | (simp [maxLen] <;> omega)
 refine WK [(2, Lz v6), (3, AV.ptr 0 0), (4, AV.ptr 1 0), (7, Lz v8), (8, Iz v9), (9, Iz v10), (19, AV.bool (decide (v10 < v0)))] [(0, .cells [Iz v0, AV.lst false false (List.map api_Edge.av v1), Lz v2]), (1, .cells [Lz v3, Lz v4, Iz v5])] 2 (by simp) (by simp) ?_
 by_cases h2 : v10 < v0
 ·replace hF := ite_t h2 hF
  have h2_ := h2
  try simp at h2_
  refine CT (by simp [h2, h2_] <;> omega) ?_
  refine AW.skip ?_
  refine hK2884 _ _ _ ?_
  refine AW.midF (α := Int) (fun v11 => ref13_Bound.J2 k v10 (fun v9_ v10_ => ref13_Bound.L1 k v0 v1 v3 v5 v6 v8 n1 v9_ v10_) v11 = some v7) (fun v11 => [(2, Lz v6), (3, AV.ptr 0 0), (4, AV.ptr 1 0), (7, Lz v8), (8, Iz v11), (9, Iz v10)]) (fun v11 => [(0, .cells [Iz v0, AV.lst false false (List.map api_Edge.av v1), Lz v2]), (1, .cells [Lz v3, Lz v4, Iz v5])]) 2 (fun K2980 hK2980 => ?_) ?_
  ·refine AW.block ?_
   refine AW.seq fun K2987 hK2987 => ?_
   refine SQ [] [none, none, none] fun _ _ g r => ?_
   try simp [h2, h2_]
   and_intros
   try any_goals first | omega | (simp [h2, h2_, maxLen] <;> omega)
   obtain ⟨v12, h3, hF⟩ := bnd1_elim hF
   refine AC (w_ref11_Has k _ _ _ h3) (.cons (.same (by simp [h2, h2_])) (.cons (.same (by simp [h2, h2_])) .nil)) ?_
   try simp [h2, h2_]
   and_intros <;> first | exact g _ (by kernel_rfl) | refine r _ _ _ ?_ | omega | (simp [h2, h2_, maxLen] <;> omega)
   refine WK [(2, Lz v6), (3, AV.ptr 0 0), (4, AV.ptr 1 0), (7, Lz v8), (8, Iz v9), (9, Iz v10), (24, AV.bool v12)] [(0, .cells [Iz v0, AV.lst false false (List.map api_Edge.av v1), Lz v2]), (1, .cells [Lz v3, Lz v4, Iz v5])] 2 (by simp [h2, h2_]) (by simp [h2, h2_]) ?_
   by_cases h4 : v12 = true
   ·replace hF := ite_t h4 hF
    have h4_ := h4
    try simp at h4_
    have F1 := And.intro h2 (And.intro h2_ (And.intro h4 h4_))
    refine CT (by simp [F1] <;> omega) ?_
    refine AW.midF (α := Int) (fun v13 => ref13_Bound.J3 k v10 (fun v9_ v10_ => ref13_Bound.L1 k v0 v1 v3 v5 v6 v8 n1 v9_ v10_) v13 = some v7) (fun v13 => [(2, Lz v6), (3, AV.ptr 0 0), (4, AV.ptr 1 0), (7, Lz v8), (8, Iz v13), (9, Iz v10)]) (fun v13 => [(0, .cells [Iz v0, AV.lst false false (List.map api_Edge.av v1), Lz v2]), (1, .cells [Lz v3, Lz v4, Iz v5])]) 2 (fun K2991 hK2991 => ?_) ?_
    ·refine SQ [] [none, none, none, none] fun _ _ g r => ?_
     try simp [F1]
     and_intros
     try any_goals first | omega | (simp [maxLen, F1] <;> omega)
     obtain ⟨v14, h5, hF⟩ := bnd1_elim hF
     refine AC (w_ref11_Has k _ _ _ h5) (.cons (.same (by simp [F1])) (.cons (.same (by simp [F1])) .nil)) ?_
     try simp [F1]
     and_intros <;> first | exact g _ (by kernel_rfl) | refine r _ _ _ ?_ | omega | (simp [maxLen, F1] <;> omega)
     refine WK [(2, Lz v6), (3, AV.ptr 0 0), (4, AV.ptr 1 0), (7, Lz v8), (8, Iz v9), (9, Iz v10), (28, AV.bool v14)] [(0, .cells [Iz v0, AV.lst false false (List.map api_Edge.av v1), Lz v2]), (1, .cells [Lz v3, Lz v4, Iz v5])] 2 (by simp [F1]) (by simp [F1]) ?_
     by_cases h6 : v14 = true
     ·replace hF := ite_t h6 hF
      have h6_ := h6
      try simp at h6_
      have F2 := And.intro F1 (And.intro h6 h6_)
      refine CT (by simp [F2] <;> omega) ?_
      refine RG [] [none, none, none, none, none, none, none] fun _ _ g r => ?_
      obtain ⟨v15, h7, h8, h9, hF⟩ := idx_elim hF
      have h9_ := get_of h9
      try simp at h9_
      have h8_ := h8
      try simp at h8_
      have F3 := And.intro F2 (And.intro h7 (And.intro h8 (And.intro h9 (And.intro h9_ h8_))))
      try simp [F3]
      and_intros <;> first | exact g _ (by kernel_rfl) | refine r _ _ _ ?_ | omega | (simp [maxLen, F3] <;> omega)
      refine hK2991 _ _ _ ?_
      exact JN (IntKind.wrap .i64 (v9 + v15)) hF (by simp [F3]) (by simp [F3])
     ·replace hF := ite_f h6 hF
      have h6_ := h6
      try simp at h6_
      have F4 := And.intro F1 (And.intro h6 h6_)
      refine CF (by simp [F4] <;> omega) ?_
      refine AW.skip ?_
      refine hK2991 _ _ _ ?_
      exact JN (v9) hF (by simp [F4]) (by simp [F4])
    ·rintro v13 hF
     try dsimp only at hF
     unfold ref13_Bound.J3 at hF
     refine AW.exit ?_
     try simp
     refine hK2980 _ _ _ ?_
     exact JN (v13) hF (by simp [F1]) (by simp [F1])
   ·replace hF := ite_f h4 hF
    have h4_ := h4
    try simp at h4_
    have F5 := And.intro h2 (And.intro h2_ (And.intro h4 h4_))
    refine CF (by simp [F5] <;> omega) ?_
    refine AW.skip ?_
    refine hK2987 _ _ _ ?_
    refine SQ [] [none] fun _ _ g r => ?_
    try simp [F5]
    and_intros <;> first | exact g _ (by kernel_rfl) | refine r _ _ _ ?_ | omega | (simp [maxLen, F5] <;> omega)
    refine WK [(2, Lz v6), (3, AV.ptr 0 0), (4, AV.ptr 1 0), (7, Lz v8), (8, Iz v9), (9, Iz v10), (10, AV.bool false)] [(0, .cells [Iz v0, AV.lst false false (List.map api_Edge.av v1), Lz v2]), (1, .cells [Lz v3, Lz v4, Iz v5])] 2 (by simp [F5]) (by simp [F5]) ?_
    refine AW.seq fun K3033 hK3033 => ?_
    refine SQ [] [none] fun _ _ g r => ?_
    try simp [F5]
    and_intros <;> first | exact g _ (by kernel_rfl) | refine r _ _ _ ?_ | omega | (simp [maxLen, F5] <;> omega)
    refine WK [(2, Lz v6), (3, AV.ptr 0 0), (4, AV.ptr 1 0), (7, Lz v8), (8, Iz v9), (9, Iz v10), (10, AV.bool false), (11, Iz 0)] [(0, .cells [Iz v0, AV.lst false false (List.map api_Edge.av v1), Lz v2]), (1, .cells [Lz v3, Lz v4, Iz v5])] 2 (by simp [F5]) (by simp [F5]) ?_
    refine AW.block ?_
    refine AW.loopF (α := (Bool × Int)) (fun n (v16, v17) => ref13_Bound.L4 k v1 v5 v6 v8 v9 v10 (fun v9_ v10_ => ref13_Bound.L1 k v0 v1 v3 v5 v6 v8 n1 v9_ v10_) n v16 v17 = some v7) (fun (v16, v17) => [(2, Lz v6), (3, AV.ptr 0 0), (4, AV.ptr 1 0), (7, Lz v8), (8, Iz v9), (9, Iz v10), (10, AV.bool v16), (11, Iz v17)]) (fun (v16, v17) => [(0, .cells [Iz v0, AV.lst false false (List.map api_Edge.av v1), Lz v2]), (1, .cells [Lz v3, Lz v4, Iz v5])]) 2 k ((false, 0)) hF (by simp [F5]) (by simp [F5]) (by simp) ?_
    rintro (_|n4) ⟨v16, v17⟩ hF K3062 hK3062
    ·try dsimp only at hF
     rw [ref13_Bound.L4] at hF; cases hF
    try dsimp only at hF
    rw [ref13_Bound.L4] at hF
    refine AW.seq fun K3064 hK3064 => ?_
    refine SQ [] [none, none, none, none, none] fun _ _ g r => ?_
    try simp [F5]
    and_intros <;> first | exact g _ (by kernel_rfl) | refine r _ _ _ ?_ | omega | (simp [maxLen, F5] <;> omega)
    refine WK [(2, Lz v6), (3, AV.ptr 0 0), (4, AV.ptr 1 0), (7, Lz v8), (8, Iz v9), (9, Iz v10), (10, AV.bool v16), (11, Iz v17), (39, AV.bool (decide (v17 < (v1.length : Int))))] [(0, .cells [Iz v0, AV.lst false false (List.map api_Edge.av v1), Lz v2]), (1, .cells [Lz v3, Lz v4, Iz v5])] 2 (by simp [F5]) (by simp [F5]) ?_
    by_cases h10 : v17 < (v1.length : Int)
    ·replace hF := ite_t h10 hF
     have h10_ := h10
     try simp at h10_
     have F6 := And.intro F5 (And.intro h10 h10_)
     refine CT (by simp [F6] <;> omega) ?_
     refine AW.skip ?_
     refine hK3064 _ _ _ ?_
     refine AW.midF (α := Bool) (fun v18 => ref13_Bound.J5 k v17 (fun v16_ v17_ => ref13_Bound.L4 k v1 v5 v6 v8 v9 v10 (fun v9_ v10_ => ref13_Bound.L1 k v0 v1 v3 v5 v6 v8 n1 v9_ v10_) n4 v16_ v17_) v18 = some v7) (fun v18 => [(2, Lz v6), (3, AV.ptr 0 0), (4, AV.ptr 1 0), (7, Lz v8), (8, Iz v9), (9, Iz v10), (10, AV.bool v18), (11, Iz v17)]) (fun v18 => [(0, .cells [Iz v0, AV.lst false false (List.map api_Edge.av v1), Lz v2]), (1, .cells [Lz v3, Lz v4, Iz v5])]) 2 (fun K3069 hK3069 => ?_) ?_
     ·refine AW.block ?_
      refine SQ [] [none, none, none, none, none, none, none] fun _ _ g r => ?_
      obtain ⟨v19, h11, h12, h13, hF⟩ := idx_elim hF
      have h13_ := get_of h13
      try simp at h13_
      have h12_ := h12
      try simp at h12_
      have F7 := And.intro F6 (And.intro h11 (And.intro h12 (And.intro h13 (And.intro h13_ h12_))))
      try simp [F7]
      and_intros <;> first | exact g _ (by kernel_rfl) | refine r _ _ _ ?_ | omega | (simp [maxLen, F7] <;> omega)
      refine WK [(2, Lz v6), (3, AV.ptr 0 0), (4, AV.ptr 1 0), (7, Lz v8), (8, Iz v9), (9, Iz v10), (10, AV.bool v16), (11, Iz v17), (12, AV.ptr 2 0)] [(0, .cells [Iz v0, AV.lst false false (List.map api_Edge.av v1), Lz v2]), (1, .cells [Lz v3, Lz v4, Iz v5]), (2, .cells [Iz v19.From, Iz v19.To, Iz v19.Level])] 3 (by simp [F7]) (by simp [F7]) ?_
      refine RG [] [none, none, some (48, false), some (48, false), some (48, false), some (48, false), some (48, false), some (53, true), some (53, true), some (53, true), some (53, true), some (53, true), some (48, false), some (48, false), some (60, true), some (60, true), some (60, true), some (60, true), some (48, false), none, none] fun _ _ g r => ?_
      by_cases h14 : v16 = true
      ·replace hF := ite_t h14 hF
       have h14_ := h14
       try simp at h14_
       have F8 := And.intro F7 (And.intro h14 h14_)
       try simp [F8]
       and_intros <;> first | exact g _ (by kernel_rfl) | refine r _ _ _ ?_ | omega | (simp [maxLen, F8] <;> omega)
       refine hK3069 _ _ _ ?_
       refine RN h0 [(0, 0), (1, 1)] [(2, Lz v6), (3, AV.ptr 0 0), (4, AV.ptr 1 0), (7, Lz v8), (8, Iz v9), (9, Iz v10), (10, AV.bool true), (11, Iz v17)] [(0, .cells [Iz v0, AV.lst false false (List.map api_Edge.av v1), Lz v2]), (1, .cells [Lz v3, Lz v4, Iz v5])] 2 (by simp [F8]) (by simp [F8]) ?_
       exact JN (true) hF (by simp [F8]) (by simp [F8])
      ·replace hF := ite_f h14 hF
       have h14_ := h14
       try simp at h14_
       by_cases h15 : v19.From = v10
       ·replace hF := ite_t h15 hF
        have h15q : v19.From = v10 := h15
        have h15_ := eqb_t h15q
        have h15__ := neb_f h15q
        by_cases h16 : v5 ≤ v19.Level
        ·replace hF := ite_t h16 hF
         have h16_ := h16
         try simp at h16_
         have F9 := And.intro F7 (And.intro h14 (And.intro h14_ (And.intro h15_ (And.intro h15__ (And.intro h16 h16_)))))
         try simp [F9]
         and_intros
         try any_goals first | omega | (simp [maxLen, F9] <;> omega)
         obtain ⟨v20, h17, hF⟩ := bnd1_elim hF
         refine AC (w_ref11_Has k _ _ _ h17) (.cons (.same (by simp [F9])) (.cons (.same (by simp [F9])) .nil)) ?_
         try simp [F9]
         and_intros <;> first | exact g _ (by kernel_rfl) | refine r _ _ _ ?_ | omega | (simp [maxLen, F9] <;> omega)
         refine hK3069 _ _ _ ?_
         refine RN h0 [(0, 0), (1, 1)] [(2, Lz v6), (3, AV.ptr 0 0), (4, AV.ptr 1 0), (7, Lz v8), (8, Iz v9), (9, Iz v10), (10, AV.bool v20), (11, Iz v17)] [(0, .cells [Iz v0, AV.lst false false (List.map api_Edge.av v1), Lz v2]), (1, .cells [Lz v3, Lz v4, Iz v5])] 2 (by simp [F9]) (by simp [F9]) ?_
         exact JN (v20) hF (by simp [F9]) (by simp [F9])
        ·replace hF := ite_f h16 hF
         have h16_ := h16
         try simp at h16_
         have F10 := And.intro F7 (And.intro h14 (And.intro h14_ (And.intro h15_ (And.intro h15__ (And.intro h16 h16_)))))
         try simp [F10]
         and_intros <;> first | exact g _ (by kernel_rfl) | refine r _ _ _ ?_ | omega | (simp [maxLen, F10] <;> omega)
         refine hK3069 _ _ _ ?_
         refine RN h0 [(0, 0), (1, 1)] [(2, Lz v6), (3, AV.ptr 0 0), (4, AV.ptr 1 0), (7, Lz v8), (8, Iz v9), (9, Iz v10), (10, AV.bool false), (11, Iz v17)] [(0, .cells [Iz v0, AV.lst false false (List.map api_Edge.av v1), Lz v2]), (1, .cells [Lz v3, Lz v4, Iz v5])] 2 (by simp [F10]) (by simp [F10]) ?_
         exact JN (false) hF (by simp [F10]) (by simp [F10])
       ·replace hF := ite_f h15 hF
        have h15_ := eqb_f h15
        have h15__ := neb_t h15
        have F11 := And.intro F7 (And.intro h14 (And.intro h14_ (And.intro h15 (And.intro h15_ h15__))))
        try simp [F11]
        and_intros <;> first | exact g _ (by kernel_rfl) | refine r _ _ _ ?_ | omega | (simp [maxLen, F11] <;> omega)
        refine hK3069 _ _ _ ?_
        refine RN h0 [(0, 0), (1, 1)] [(2, Lz v6), (3, AV.ptr 0 0), (4, AV.ptr 1 0), (7, Lz v8), (8, Iz v9), (9, Iz v10), (10, AV.bool false), (11, Iz v17)] [(0, .cells [Iz v0, AV.lst false false (List.map api_Edge.av v1), Lz v2]), (1, .cells [Lz v3, Lz v4, Iz v5])] 2 (by simp [F11]) (by simp [F11]) ?_
        exact JN (false) hF (by simp [F11]) (by simp [F11])
     ·rintro v18 hF
      try dsimp only at hF
      unfold ref13_Bound.J5 at hF
      refine RG [] [none, none, none] fun _ _ g r => ?_
      try simp [F6]
      and_intros <;> first | exact g _ (by kernel_rfl) | refine r _ _ _ ?_ | omega | (simp [maxLen, F6] <;> omega)
      refine hK3062 _ _ _ ?_
      exact NX (k' := n4) ((v18, IntKind.wrap .i64 (v17 + 1))) hF (by simp [F6]) (by simp [F6])
    ·replace hF := ite_f h10 hF
     have h10_ := h10
     try simp at h10_
     have F12 := And.intro F5 (And.intro h10 h10_)
     refine CF (by simp [F12] <;> omega) ?_
     refine AW.exit ?_
     try simp
     refine hK3033 _ _ _ ?_
     refine SQ [] [none] fun _ _ g r => ?_
     try simp [F12]
     and_intros <;> first | exact g _ (by kernel_rfl) | refine r _ _ _ ?_ | omega | (simp [maxLen, F12] <;> omega)
     refine WK [(2, Lz v6), (3, AV.ptr 0 0), (4, AV.ptr 1 0), (7, Lz v8), (8, Iz v9), (9, Iz v10), (67, AV.bool v16)] [(0, .cells [Iz v0, AV.lst false false (List.map api_Edge.av v1), Lz v2]), (1, .cells [Lz v3, Lz v4, Iz v5])] 2 (by simp [F12]) (by simp [F12]) ?_
     by_cases h18 : v16 = true
     ·replace hF := ite_t h18 hF
      have h18_ := h18
      try simp at h18_
      have F13 := And.intro F12 (And.intro h18 h18_)
      refine CT (by simp [F13] <;> omega) ?_
      refine RG [] [none, none, none, none, none, none, none, none, none] fun _ _ g r => ?_
      obtain ⟨v21, h19, h20, h21, hF⟩ := idx_elim hF
      have h21_ := get_of h21
      try simp at h21_
      have h20_ := h20
      try simp at h20_
      obtain ⟨v22, h22, hF⟩ := let1_elim hF
      have h22_ := h22
      try simp at h22_
      have F14 := And.intro F13 (And.intro h19 (And.intro h20 (And.intro h21 (And.intro h21_ (And.intro h20_ (And.intro h22 h22_))))))
      try simp [F14]
      and_intros <;> first | exact g _ (by kernel_rfl) | refine r _ _ _ ?_ | omega | (simp [maxLen, F14] <;> omega)
      refine hK2980 _ _ _ ?_
      exact JN (IntKind.wrap .i64 (v9 + v22)) hF (by simp [F14]) (by simp [F14])
     ·replace hF := ite_f h18 hF
      have h18_ := h18
      try simp at h18_
      have F15 := And.intro F12 (And.intro h18 h18_)
      refine CF (by simp [F15] <;> omega) ?_
      refine AW.skip ?_
      refine hK2980 _ _ _ ?_
      exact JN (v9) hF (by simp [F15]) (by simp [F15])
  ·rintro v11 hF
   try dsimp only at hF
   unfold ref13_Bound.J2 at hF
   refine RG [] [none, none, none] fun _ _ g r => ?_
   try simp [h2, h2_]
   and_intros <;> first | exact g _ (by kernel_rfl) | refine r _ _ _ ?_ | omega | (simp [h2, h2_, maxLen] <;> omega)
   refine hK2882 _ _ _ ?_
   exact NX (k' := n1) ((v11, IntKind.wrap .i64 (v10 + 1))) hF (by simp [h2, h2_]) (by simp [h2, h2_])
 ·replace hF := ite_f h2 hF
  have h2_ := h2
  try simp at h2_
  refine CF (by simp [h2, h2_] <;> omega) ?_
  refine AW.exit ?_
  try simp
  refine hK2307 _ _ _ ?_
  refine SQ [] [none, none] fun _ _ g r => ?_
  try simp [h2, h2_]
  and_intros <;> first | exact g _ (by kernel_rfl) | refine r _ _ _ ?_ | omega | (simp [h2, h2_, maxLen] <;> omega)
  refine WK [(6, Iz v9)] [] 2 (by simp [h2, h2_]) (by simp [h2, h2_]) ?_
  simp only [Option.some.injEq] at hF
  subst hF
  refine AW.ret (hQ _ _ _ ?_ (matchO_0 ?_)).1
  ·simp [Try.f39, h2, h2_]
  ·simp [h2, h2_]
theorem w_law13_agree (k : Nat) (v0 : Int) (v1 : (List api_Edge)) (v2 : (List Int)) (v3 : (List Int)) (v4 : (List Int)) (v5 : Int) (v6 : (List Int)) (v7 : Bool) (hF : law13_agree k v0 v1 v2 v3 v4 v5 v6 = some v7) :
  FCall Try.prog 15 [AV.agg [AV.int .i64 v0, AV.lst false false (List.map api_Edge.av v1), AV.lst false false (List.map (AV.int .i64) v2)], AV.agg [AV.lst false false (List.map (AV.int .i64) v3), AV.lst false false (List.map (AV.int .i64) v4), AV.int .i64 v5], AV.lst false false (List.map (AV.int .i64) v6)] [] (AV.bool v7) [] := by
 unfold law13_agree at hF
 refine EN Try.func15 ?_
 intro c0 w0 Q h0 hQ
 refine WK [(0, AV.agg [Iz v0, AV.lst false false (List.map api_Edge.av v1), Lz v2]), (1, AV.agg [Lz v3, Lz v4, Iz v5]), (2, Lz v6)] [] 0 (by simp) (by simp) ?_
 refine SQ [] [none, none, none] fun _ _ g r => ?_
 try simp
 and_intros <;> first | exact g _ (by kernel_rfl) | refine r _ _ _ ?_ | omega | (simp [maxLen] <;> omega)
 refine WK [(2, Lz v6), (3, AV.ptr 0 0), (4, AV.ptr 1 0)] [(0, .cells [Iz v0, AV.lst false false (List.map api_Edge.av v1), Lz v2]), (1, .cells [Lz v3, Lz v4, Iz v5])] 2 (by simp) (by simp) ?_
 refine AW.seq fun K16 hK16 => ?_
 refine SQ [] [none, none, none, none, none, none, none] fun _ _ g r => ?_
 try simp
 and_intros
 try any_goals first | omega | (simp [maxLen] <;> omega)
 obtain ⟨v8, h1, hF⟩ := bnd1_elim hF
 refine AC (w_capacity_Check k _ _ _ _ _ _ _ h1) (.cons (.same (by simp)) (.cons (.same (by simp)) .nil)) ?_
 try simp
 and_intros
 try any_goals first | omega | (simp [maxLen] <;> omega)
 obtain ⟨v9, h2, hF⟩ := bnd1_elim hF
 refine AC (w_ref13_Check k _ _ _ _ _ _ _ h2) (.cons (.same (by simp)) (.cons (.same (by simp)) .nil)) ?_
 try simp
 and_intros <;> first | exact g _ (by kernel_rfl) | refine r _ _ _ ?_ | omega | (simp [maxLen] <;> omega)
 refine WK [(2, Lz v6), (3, AV.ptr 0 0), (4, AV.ptr 1 0), (13, AV.bool (v8 != v9))] [(0, .cells [Iz v0, AV.lst false false (List.map api_Edge.av v1), Lz v2]), (1, .cells [Lz v3, Lz v4, Iz v5])] 2 (by simp) (by simp) ?_
 by_cases h3 : v8 ≠ v9
 ·replace hF := ite_t h3 hF
  have h3_ := eqb_f h3
  have h3__ := neb_t h3
  have F1 := And.intro h3 (And.intro h3_ h3__)
  refine CT (by simp [F1] <;> omega) ?_
  refine SQ [] [none] fun _ _ g r => ?_
  try simp [F1]
  and_intros <;> first | exact g _ (by kernel_rfl) | refine r _ _ _ ?_ | omega | (simp [maxLen, F1] <;> omega)
  refine WK [(6, AV.bool false)] [] 2 (by simp [F1]) (by simp [F1]) ?_
  simp only [Option.some.injEq] at hF
  subst hF
  refine AW.ret (hQ _ _ _ ?_ (matchO_0 ?_)).1
  ·simp [Try.f15, F1]
  ·simp [F1]
 ·replace hF := ite_f h3 hF
  have h3q : v8 = v9 := Classical.not_not.1 h3
  have h3_ := eqb_t h3q
  have h3__ := neb_f h3q
  refine CF (by simp [h3_, h3__] <;> omega) ?_
  refine AW.skip ?_
  refine hK16 _ _ _ ?_
  refine AW.seq fun K21 hK21 => ?_
  refine SQ [] [none, none, none, none] fun _ _ g r => ?_
  try simp [h3_, h3__]
  and_intros
  try any_goals first | omega | (simp [h3_, h3__, maxLen] <;> omega)
  obtain ⟨v10, h4, hF⟩ := bnd1_elim hF
  refine AC (w_ref13_Check k _ _ _ _ _ _ _ h4) (.cons (.same (by simp [h3_, h3__])) (.cons (.same (by simp [h3_, h3__])) .nil)) ?_
  try simp [h3_, h3__]
  and_intros <;> first | exact g _ (by kernel_rfl) | refine r _ _ _ ?_ | omega | (simp [h3_, h3__, maxLen] <;> omega)
  refine WK [(2, Lz v6), (3, AV.ptr 0 0), (4, AV.ptr 1 0), (17, AV.bool (v10 != 0))] [(0, .cells [Iz v0, AV.lst false false (List.map api_Edge.av v1), Lz v2]), (1, .cells [Lz v3, Lz v4, Iz v5])] 2 (by simp [h3_, h3__]) (by simp [h3_, h3__]) ?_
  by_cases h5 : v10 ≠ 0
  ·replace hF := ite_t h5 hF
   have h5_ := eqb_f h5
   have h5__ := neb_t h5
   have F2 := And.intro h3_ (And.intro h3__ (And.intro h5 (And.intro h5_ h5__)))
   refine CT (by simp [F2] <;> omega) ?_
   refine SQ [] [none] fun _ _ g r => ?_
   try simp [F2]
   and_intros <;> first | exact g _ (by kernel_rfl) | refine r _ _ _ ?_ | omega | (simp [maxLen, F2] <;> omega)
   refine WK [(6, AV.bool true)] [] 2 (by simp [F2]) (by simp [F2]) ?_
   simp only [Option.some.injEq] at hF
   subst hF
   refine AW.ret (hQ _ _ _ ?_ (matchO_0 ?_)).1
   ·simp [Try.f15, F2]
   ·simp [F2]
  ·replace hF := ite_f h5 hF
   have h5q : v10 = 0 := Classical.not_not.1 h5
   have h5_ := eqb_t h5q
   have h5__ := neb_f h5q
   have F3 := And.intro h3_ (And.intro h3__ (And.intro h5_ (And.intro h5__ h5q)))
   refine CF (by simp [F3] <;> omega) ?_
   refine AW.skip ?_
   refine hK21 _ _ _ ?_
   refine SQ [] [none, none, none, none, none, none, none, none, some (25, true), some (25, true), some (25, true), some (25, true), some (25, true), some (25, true), some (25, true), some (25, true), some (25, true), none, none] fun _ _ g r => ?_
   try simp [F3]
   and_intros
   try any_goals first | omega | (simp [maxLen, F3] <;> omega)
   obtain ⟨v11, h6, hF⟩ := bnd1_elim hF
   refine AC (w_capacity_All k _ _ _ _ _ _ _ h6) (.cons (.same (by simp [F3])) (.cons (.same (by simp [F3])) .nil)) ?_
   try simp [F3]
   and_intros
   try any_goals first | omega | (simp [maxLen, F3] <;> omega)
   obtain ⟨v12, h7, hF⟩ := bnd1_elim hF
   refine AC (w_ref13_All k _ _ _ _ _ _ _ h7) (.cons (.same (by simp [F3])) (.cons (.same (by simp [F3])) .nil)) ?_
   try simp [F3]
   and_intros
   try any_goals first | omega | (simp [maxLen, F3] <;> omega)
   obtain ⟨v13, h8, hF⟩ := bnd1_elim hF
   refine aCall_l (w_ref03_SameInts k _ _ _ h8) (by simp) [] [2, 3] [] rfl (.cons (Coe.l (o := .cells (List.map (AV.int .i64) v11)) (by simp [F3]) rfl (by simp [F3]) (by simp [noIdsL]) (by simp [F3]) (by simp [F3])) (.cons (Coe.l (o := .grow (List.map (AV.int .i64) v12)) (by simp [F3]) rfl (by simp [F3]) (by simp [noIdsL]) (by simp [F3]) (by simp [F3])) .nil)) (by simp [F3]) (by decide) (by simp) (by simp) (.inr ⟨by simp, by simp⟩) (by simp) (by simp) ?_
   by_cases h9 : v13 = true
   ·replace hF := ite_t h9 hF
    have h9_ := h9
    try simp at h9_
    have F4 := And.intro F3 (And.intro h9 h9_)
    try simp [F4]
    and_intros
    try any_goals first | omega | (simp [maxLen, F4] <;> omega)
    obtain ⟨v14, h10, hF⟩ := bnd1_elim hF
    refine AC (w_capacity_Bound k _ _ _ _ _ _ _ _ h10) (.cons (.same (by simp [F4])) (.cons (.same (by simp [F4])) (.cons (.same (by simp [F4])) .nil))) ?_
    try simp [F4]
    and_intros
    try any_goals first | omega | (simp [maxLen, F4] <;> omega)
    obtain ⟨v15, h11, hF⟩ := bnd1_elim hF
    refine AC (w_ref13_Bound k _ _ _ _ _ _ _ _ h11) (.cons (.same (by simp [F4])) (.cons (.same (by simp [F4])) (.cons (.same (by simp [F4])) .nil))) ?_
    try simp [F4]
    and_intros <;> first | exact g _ (by kernel_rfl) | refine r _ _ _ ?_ | omega | (simp [maxLen, F4] <;> omega)
    refine WK [(6, AV.bool (v14 == v15))] [] 4 (by simp [F4]) (by simp [F4]) ?_
    simp only [Option.some.injEq] at hF
    subst hF
    refine AW.ret (hQ _ _ _ ?_ (matchO_0 ?_)).1
    ·simp [Try.f15, F4]
    ·simp [F4]
   ·replace hF := ite_f h9 hF
    have h9_ := h9
    try simp at h9_
    have F5 := And.intro F3 (And.intro h9 h9_)
    try simp [F5]
    and_intros <;> first | exact g _ (by kernel_rfl) | refine r _ _ _ ?_ | omega | (simp [maxLen, F5] <;> omega)
    refine WK [(6, AV.bool false)] [] 4 (by simp [F5]) (by simp [F5]) ?_
    simp only [Option.some.injEq] at hF
    subst hF
    refine AW.ret (hQ _ _ _ ?_ (matchO_0 ?_)).1
    ·simp [Try.f15, F5]
    ·simp [F5]
theorem w_law13_CapacityMade (k : Nat) (v0 : (List Int)) (v1 : Int) (v2 : Bool) (hF : law13_CapacityMade k v0 v1 = some v2) :
  FCall Try.prog 4 [AV.lst false false (List.map (AV.int .i64) v0), AV.int .i64 v1] [] (AV.bool v2) [] := by
 unfold law13_CapacityMade at hF
 refine EN Try.func4 ?_
 intro c0 w0 Q h0 hQ
 refine WK [(0, Lz v0), (1, Iz v1)] [] 0 (by simp) (by simp) ?_
 refine SQ [] [none] fun _ _ g r => ?_
 try simp
 and_intros <;> first | exact g _ (by kernel_rfl) | refine r _ _ _ ?_ | omega | (simp [maxLen] <;> omega)
 refine WK [(0, Lz v0), (1, Iz v1)] [] 0 (by simp) (by simp) ?_
 refine AW.seq fun K84 hK84 => ?_
 refine SQ [] [none, none, none] fun _ _ g r => ?_
 try simp
 and_intros
 try any_goals first | omega | (simp [maxLen] <;> omega)
 obtain ⟨v3, h1, hF⟩ := bnd1_elim hF
 refine AC (w_made_Light k _ _ h1) (.cons (.same (by simp)) .nil) ?_
 try simp
 and_intros <;> first | exact g _ (by kernel_rfl) | refine r _ _ _ ?_ | omega | (simp [maxLen] <;> omega)
 refine WK [(0, Lz v0), (1, Iz v1), (10, AV.bool (!v3))] [] 0 (by simp) (by simp) ?_
 by_cases h2 : (!v3) = true
 ·replace hF := ite_t h2 hF
  have h2_ := h2
  try simp at h2_
  refine CT (by simp [h2, h2_] <;> omega) ?_
  refine SQ [] [none, none] fun _ _ g r => ?_
  try simp [h2, h2_]
  and_intros
  try any_goals first | omega | (simp [h2, h2_, maxLen] <;> omega)
  obtain ⟨v4, h3, hF⟩ := bnd1_elim hF
  refine AC (w_law13_awake k _ h3) .nil ?_
  try simp [h2, h2_]
  and_intros <;> first | exact g _ (by kernel_rfl) | refine r _ _ _ ?_ | omega | (simp [h2, h2_, maxLen] <;> omega)
  refine WK [(4, AV.bool v4)] [] 0 (by simp [h2, h2_]) (by simp [h2, h2_]) ?_
  simp only [Option.some.injEq] at hF
  subst hF
  refine AW.ret (hQ _ _ _ ?_ (matchO_0 ?_)).1
  ·simp [Try.f4, h2, h2_]
  ·simp [h2, h2_]
 ·replace hF := ite_f h2 hF
  have h2_ := h2
  try simp at h2_
  refine CF (by simp [h2, h2_] <;> omega) ?_
  refine AW.skip ?_
  refine hK84 _ _ _ ?_
  refine SQ [] [none, none, none] fun _ _ g r => ?_
  try simp [h2, h2_]
  and_intros
  try any_goals first | omega | (simp [h2, h2_, maxLen] <;> omega)
  obtain ⟨v5, v6, h4, hF⟩ := bnd2_elim hF
  refine AC (w_made_Roll k _ _ _ h4) (.cons (.same (by simp [h2, h2_])) .nil) ?_
  try simp [h2, h2_]
  and_intros <;> first | exact g _ (by kernel_rfl) | refine r _ _ _ ?_ | omega | (simp [h2, h2_, maxLen] <;> omega)
  refine WK [(1, Iz v1), (5, AV.ptr 0 0)] [(0, .cells [Lz v5, Iz v6])] 1 (by simp [h2, h2_]) (by simp [h2, h2_]) ?_
  refine SQ [] [none, none, none, none] fun _ _ g r => ?_
  try simp [h2, h2_]
  and_intros
  try any_goals first | omega | (simp [h2, h2_, maxLen] <;> omega)
  obtain ⟨v7, v8, v9, v10, h5, hF⟩ := bnd4_elim hF
  refine aCall_l (w_made_Dice_Graph_o k _ _ _ _ _ _ h5) (by simp) [0] [] [0] rfl (.cons (.same (by simp [h2, h2_])) .nil) (by simp [h2, h2_]) (by decide) (by simp) (by simp) (.inl rfl) (by simp) (by simp) ?_
  try simp [h2, h2_]
  and_intros <;> first | exact g _ (by kernel_rfl) | refine r _ _ _ ?_ | omega | (simp [h2, h2_, maxLen] <;> omega)
  refine WK [(1, Iz v1), (5, AV.ptr 0 0), (6, AV.ptr 3 0)] [(0, .cells [Lz v5, Iz v10]), (1, .grow (flatA (List.map api_Edge.av v8))), (2, .grow (List.map (AV.int .i64) v9)), (3, .cells [Iz v7, AV.slc 1 0 3 v8.length false, AV.slc 2 0 1 v9.length false])] 4 (by simp [h2, h2_]) (by simp [h2, h2_]) ?_
  refine AW.frz 1 (o := .grow (flatA (List.map api_Edge.av v8))) (by simp [h2, h2_]) rfl [] [(3, .cells [Iz v7, AV.lst false false (List.map api_Edge.av v8), AV.slc 2 0 1 v9.length false])] trivial ⟨⟨by simp, AObj.cells [Iz v7, AV.slc 1 0 3 v8.length false, AV.slc 2 0 1 v9.length false], by simp [h2, h2_], (.mk (.cons (.same _) (.cons (.l (by simp) (by simp) (by simp) (by simp)) (.cons (.same _) .nil))))⟩, trivial⟩ ?_
  refine AW.frz 2 (o := .grow (List.map (AV.int .i64) v9)) (by simp [h2, h2_]) rfl [] [(3, .cells [Iz v7, AV.lst false false (List.map api_Edge.av v8), Lz v9])] trivial ⟨⟨by simp, AObj.cells [Iz v7, AV.lst false false (List.map api_Edge.av v8), AV.slc 2 0 1 v9.length false], by simp [h2, h2_], (.mk (.cons (.same _) (.cons (.same _) (.cons (.l (by simp) (by simp) (by simp) (by simp)) .nil))))⟩, trivial⟩ ?_
  refine WK [(1, Iz v1), (5, AV.ptr 0 0), (6, AV.ptr 3 0)] [(0, .cells [Lz v5, Iz v10]), (3, .cells [Iz v7, AV.lst false false (List.map api_Edge.av v8), Lz v9])] 4 (by simp [h2, h2_]) (by simp [h2, h2_]) ?_
  refine SQ [] [none, none, none, none, none] fun _ _ g r => ?_
  try simp [h2, h2_]
  and_intros
  try any_goals first | omega | (simp [h2, h2_, maxLen] <;> omega)
  obtain ⟨v11, v12, v13, v14, h6, hF⟩ := bnd4_elim hF
  refine aCall_l (w_made_Dice_Policy_o k _ _ _ _ _ _ _ _ _ h6) (by simp) [0] [] [0] rfl (.cons (.same (by simp [h2, h2_])) (.cons (.same (by simp [h2, h2_])) .nil)) (by simp [h2, h2_]) (by decide) (by simp) (by simp) (.inl rfl) (by simp) (by simp) ?_
  try simp [h2, h2_]
  and_intros <;> first | exact g _ (by kernel_rfl) | refine r _ _ _ ?_ | omega | (simp [h2, h2_, maxLen] <;> omega)
  refine WK [(1, Iz v1), (5, AV.ptr 0 0), (6, AV.ptr 3 0), (7, AV.ptr 6 0)] [(0, .cells [Lz v5, Iz v14]), (3, .cells [Iz v7, AV.lst false false (List.map api_Edge.av v8), Lz v9]), (4, .grow (List.map (AV.int .i64) v11)), (5, .grow (List.map (AV.int .i64) v12)), (6, .cells [AV.slc 4 0 1 v11.length false, AV.slc 5 0 1 v12.length false, Iz v13])] 7 (by simp [h2, h2_]) (by simp [h2, h2_]) ?_
  refine AW.seq fun K92 hK92 => ?_
  refine SQ [] [none, none, none, none, none, none, none, none] fun _ _ g r => ?_
  try simp [h2, h2_]
  and_intros
  try any_goals first | omega | (simp [h2, h2_, maxLen] <;> omega)
  obtain ⟨v15, v16, h7, hF⟩ := bnd2_elim hF
  refine aCall_l (w_made_Dice_Some k _ _ _ _ _ h7) (by simp) [0] [] [0] rfl (.cons (.same (by simp [h2, h2_])) (.cons (.same (by simp [h2, h2_])) .nil)) (by simp [h2, h2_]) (by decide) (by simp) (by simp) (.inl rfl) (by simp) (by simp) ?_
  try simp [h2, h2_]
  and_intros
  try any_goals first | omega | (simp [h2, h2_, maxLen] <;> omega)
  obtain ⟨v17, h8, hF⟩ := bnd1_elim hF
  refine aCall_l (w_law13_agree k _ _ _ _ _ _ _ _ h8) (by simp) [] [4, 5, 7] [] rfl (.cons (.same (by simp [h2, h2_])) (.cons (.agg (.cons (Coe.l (o := .grow (List.map (AV.int .i64) v11)) (by simp [h2, h2_]) rfl (by simp [h2, h2_]) (by simp [noIdsL]) (by simp [h2, h2_]) (by simp [h2, h2_])) (.cons (Coe.l (o := .grow (List.map (AV.int .i64) v12)) (by simp [h2, h2_]) rfl (by simp [h2, h2_]) (by simp [noIdsL]) (by simp [h2, h2_]) (by simp [h2, h2_])) (.cons (.same (by simp [h2, h2_])) .nil)))) (.cons (Coe.l (o := .grow (List.map (AV.int .i64) v15)) (by simp [h2, h2_]) rfl (by simp [h2, h2_]) (by simp [noIdsL]) (by simp [h2, h2_]) (by simp [h2, h2_])) .nil))) (by simp [h2, h2_]) (by decide) (by simp) (by simp) (.inr ⟨by simp, by simp⟩) (by simp) (by simp) ?_
  try simp [h2, h2_]
  and_intros <;> first | exact g _ (by kernel_rfl) | refine r _ _ _ ?_ | omega | (simp [h2, h2_, maxLen] <;> omega)
  refine WK [(1, Iz v1), (5, AV.ptr 0 0), (6, AV.ptr 3 0), (7, AV.ptr 6 0), (26, AV.bool (!v17))] [(0, .cells [Lz v5, Iz v16]), (3, .cells [Iz v7, AV.lst false false (List.map api_Edge.av v8), Lz v9]), (4, .grow (List.map (AV.int .i64) v11)), (5, .grow (List.map (AV.int .i64) v12)), (6, .cells [AV.slc 4 0 1 v11.length false, AV.slc 5 0 1 v12.length false, Iz v13])] 8 (by simp [h2, h2_]) (by simp [h2, h2_]) ?_
  by_cases h9 : (!v17) = true
  ·replace hF := ite_t h9 hF
   have h9_ := h9
   try simp at h9_
   have F1 := And.intro h2 (And.intro h2_ (And.intro h9 h9_))
   refine CT (by simp [F1] <;> omega) ?_
   refine SQ [] [none] fun _ _ g r => ?_
   try simp [F1]
   and_intros <;> first | exact g _ (by kernel_rfl) | refine r _ _ _ ?_ | omega | (simp [maxLen, F1] <;> omega)
   refine WK [(4, AV.bool false)] [] 8 (by simp [F1]) (by simp [F1]) ?_
   simp only [Option.some.injEq] at hF
   subst hF
   refine AW.ret (hQ _ _ _ ?_ (matchO_0 ?_)).1
   ·simp [Try.f4, F1]
   ·simp [F1]
  ·replace hF := ite_f h9 hF
   have h9_ := h9
   try simp at h9_
   have F2 := And.intro h2 (And.intro h2_ (And.intro h9 h9_))
   refine CF (by simp [F2] <;> omega) ?_
   refine AW.skip ?_
   refine hK92 _ _ _ ?_
   refine AW.midF (α := (Int × Int × (List Int) × (List Int) × Int)) (fun (v18, v19, v20, v21, v22) => law13_CapacityMade.J1 k v5 v8 v9 v18 v19 v20 v21 v22 = some v2) (fun (v18, v19, v20, v21, v22) => [(5, AV.ptr 0 0), (6, AV.ptr 1 0), (7, AV.ptr 2 0)]) (fun (v18, v19, v20, v21, v22) => [(0, .cells [Lz v5, Iz v18]), (1, .cells [Iz v19, AV.lst false false (List.map api_Edge.av v8), Lz v9]), (2, .cells [Lz v20, Lz v21, Iz v22])]) 3 (fun K128 hK128 => ?_) ?_
   ·refine SQ [] [none, none] fun _ _ g r => ?_
    try simp [F2]
    and_intros
    try any_goals first | omega | (simp [maxLen, F2] <;> omega)
    obtain ⟨v27, v28, h14, hF⟩ := bnd2_elim hF
    refine aCall_l (w_made_Dice_Next k _ _ _ _ _ h14) (by simp) [0] [] [0] rfl (.cons (.same (by simp [F2])) (.cons (.same (by simp [F2])) .nil)) (by simp [F2]) (by decide) (by simp) (by simp) (.inl rfl) (by simp) (by simp) ?_
    try simp [F2]
    and_intros <;> first | exact g _ (by kernel_rfl) | refine r _ _ _ ?_ | omega | (simp [maxLen, F2] <;> omega)
    refine WK [(1, Iz v1), (5, AV.ptr 0 0), (6, AV.ptr 3 0), (7, AV.ptr 6 0), (28, Iz v27)] [(0, .cells [Lz v5, Iz v28]), (3, .cells [Iz v7, AV.lst false false (List.map api_Edge.av v8), Lz v9]), (4, .grow (List.map (AV.int .i64) v11)), (5, .grow (List.map (AV.int .i64) v12)), (6, .cells [AV.slc 4 0 1 v11.length false, AV.slc 5 0 1 v12.length false, Iz v13])] 8 (by simp [F2]) (by simp [F2]) ?_
    refine AW.block ?_
    refine SQ [] [none, none] fun _ _ g r => ?_
    try simp [F2]
    and_intros <;> first | exact g _ (by kernel_rfl) | refine r _ _ _ ?_ | omega | (simp [maxLen, F2] <;> omega)
    refine WK [(1, Iz v1), (5, AV.ptr 0 0), (6, AV.ptr 3 0), (7, AV.ptr 6 0), (28, Iz v27), (33, AV.bool (v27 == 0))] [(0, .cells [Lz v5, Iz v28]), (3, .cells [Iz v7, AV.lst false false (List.map api_Edge.av v8), Lz v9]), (4, .grow (List.map (AV.int .i64) v11)), (5, .grow (List.map (AV.int .i64) v12)), (6, .cells [AV.slc 4 0 1 v11.length false, AV.slc 5 0 1 v12.length false, Iz v13])] 8 (by simp [F2]) (by simp [F2]) ?_
    by_cases h15 : v27 = 0
    ·replace hF := ite_t h15 hF
     have h15q : v27 = 0 := h15
     have h15_ := eqb_t h15q
     have h15__ := neb_f h15q
     have F3 := And.intro F2 (And.intro h15_ (And.intro h15__ h15q))
     refine CT (by simp [F3] <;> omega) ?_
     refine RG [] [none, none] fun _ _ g r => ?_
     try simp [F3]
     and_intros <;> first | exact g _ (by kernel_rfl) | refine r _ _ _ ?_ | omega | (simp [maxLen, F3] <;> omega)
     refine hK128 _ _ _ ?_
     refine Can.weak [(5, AV.ptr 0 0), (6, AV.ptr 3 0), (7, AV.ptr 6 0)] [(0, .cells [Lz v5, Iz v28]), (3, .cells [Iz v7, AV.lst false false (List.map api_Edge.av v8), Lz v9]), (5, .grow (List.map (AV.int .i64) v12)), (6, .cells [AV.lst true true (List.map (AV.int .i64) ([] : List Int)), AV.slc 5 0 1 v12.length false, Iz v13])] 8 (by simp [F3]) (by simp [F3]) (by simp) ?_
     refine Can.freeze 5 (o := .grow (List.map (AV.int .i64) v12)) (by simp [F3]) rfl [] [(6, .cells [AV.lst true true (List.map (AV.int .i64) ([] : List Int)), Lz v12, Iz v13])] trivial ⟨⟨by simp, AObj.cells [AV.lst true true (List.map (AV.int .i64) ([] : List Int)), AV.slc 5 0 1 v12.length false, Iz v13], by simp [F3], (.mk (.cons (.same _) (.cons (.l (by simp) (by simp) (by simp) (by simp)) (.cons (.same _) .nil))))⟩, trivial⟩ ?_
     refine RN h0 [(0, 0), (1, 3), (2, 6)] [(5, AV.ptr 0 0), (6, AV.ptr 1 0), (7, AV.ptr 2 0)] [(0, .cells [Lz v5, Iz v28]), (1, .cells [Iz v7, AV.lst false false (List.map api_Edge.av v8), Lz v9]), (2, .cells [AV.lst true true (List.map (AV.int .i64) ([] : List Int)), Lz v12, Iz v13])] 3 (by simp [F3]) (by simp [F3]) ?_
     refine Can.flg [] [(2, .cells [Lz ([] : List Int), Lz v12, Iz v13])] trivial ⟨⟨AObj.cells [AV.lst true true (List.map (AV.int .i64) ([] : List Int)), Lz v12, Iz v13], by simp [F3], (.mk (.cons (.lst (by simp)) (.cons (.same _) (.cons (.same _) .nil))))⟩, trivial⟩ (by simp) ?_
     exact JN ((v28, v7, ([] : List Int), v12, v13)) hF (by simp [F3]) (by simp [F3])
    ·replace hF := ite_f h15 hF
     have h15_ := eqb_f h15
     have h15__ := neb_t h15
     have F4 := And.intro F2 (And.intro h15 (And.intro h15_ h15__))
     refine CF (by simp [F4] <;> omega) ?_
     refine SQ [] [none, none] fun _ _ g r => ?_
     try simp [F4]
     and_intros <;> first | exact g _ (by kernel_rfl) | refine r _ _ _ ?_ | omega | (simp [maxLen, F4] <;> omega)
     refine WK [(1, Iz v1), (5, AV.ptr 0 0), (6, AV.ptr 3 0), (7, AV.ptr 6 0), (28, Iz v27), (36, AV.bool (v27 == 1))] [(0, .cells [Lz v5, Iz v28]), (3, .cells [Iz v7, AV.lst false false (List.map api_Edge.av v8), Lz v9]), (4, .grow (List.map (AV.int .i64) v11)), (5, .grow (List.map (AV.int .i64) v12)), (6, .cells [AV.slc 4 0 1 v11.length false, AV.slc 5 0 1 v12.length false, Iz v13])] 8 (by simp [F4]) (by simp [F4]) ?_
     by_cases h16 : v27 = 1
     ·replace hF := ite_t h16 hF
      have h16q : v27 = 1 := h16
      have h16_ := eqb_t h16q
      have h16__ := neb_f h16q
      refine CT (by simp [F4, h16_, h16__, h16q] <;> omega) ?_
      refine RG [] [none, none, none, none, none, none, none] fun _ _ g r => ?_
      obtain ⟨h17, hF⟩ := chk_elim hF
      have h17_ := h17
      try simp at h17_
      have F5 := And.intro F4 (And.intro h16_ (And.intro h16__ (And.intro h16q h17)))
      try simp [F5]
      and_intros <;> first | exact g _ (by kernel_rfl) | refine r _ _ _ ?_ | omega | (simp [maxLen, F5] <;> omega)
      refine hK128 _ _ _ ?_
      refine Can.weak [(5, AV.ptr 0 0), (6, AV.ptr 3 0), (7, AV.ptr 6 0)] [(0, .cells [Lz v5, Iz v28]), (3, .cells [Iz v7, AV.lst false false (List.map api_Edge.av v8), Lz v9]), (5, .grow (List.map (AV.int .i64) v12)), (6, .cells [AV.slc 8 0 1 ((v11 ++ ([v1] : List Int)).length) false, AV.slc 5 0 1 v12.length false, Iz v13]), (8, .grow (List.map (AV.int .i64) (v11 ++ ([v1] : List Int))))] 9 (by simp [F5]) (by simp [F5] <;> omega) (by simp) ?_
      refine Can.freeze 8 (o := .grow (List.map (AV.int .i64) (v11 ++ ([v1] : List Int)))) (by simp [F5]) rfl [] [(6, .cells [Lz (v11 ++ ([v1] : List Int)), AV.slc 5 0 1 v12.length false, Iz v13])] trivial ⟨⟨by simp, AObj.cells [AV.slc 8 0 1 ((v11 ++ ([v1] : List Int)).length) false, AV.slc 5 0 1 v12.length false, Iz v13], by simp [F5], (.mk (.cons (.l (by simp) (by simp) (by simp) (by simp)) (.cons (.same _) (.cons (.same _) .nil))))⟩, trivial⟩ ?_
      refine Can.freeze 5 (o := .grow (List.map (AV.int .i64) v12)) (by simp [F5]) rfl [] [(6, .cells [Lz (v11 ++ ([v1] : List Int)), Lz v12, Iz v13])] trivial ⟨⟨by simp, AObj.cells [Lz (v11 ++ ([v1] : List Int)), AV.slc 5 0 1 v12.length false, Iz v13], by simp [F5], (.mk (.cons (.same _) (.cons (.l (by simp) (by simp) (by simp) (by simp)) (.cons (.same _) .nil))))⟩, trivial⟩ ?_
      refine RN h0 [(0, 0), (1, 3), (2, 6)] [(5, AV.ptr 0 0), (6, AV.ptr 1 0), (7, AV.ptr 2 0)] [(0, .cells [Lz v5, Iz v28]), (1, .cells [Iz v7, AV.lst false false (List.map api_Edge.av v8), Lz v9]), (2, .cells [Lz (v11 ++ ([v1] : List Int)), Lz v12, Iz v13])] 3 (by simp [F5]) (by simp [F5]) ?_
      exact JN ((v28, v7, v11 ++ ([v1] : List Int), v12, v13)) hF (by simp [F5]) (by simp [F5])
     ·replace hF := ite_f h16 hF
      have h16_ := eqb_f h16
      have h16__ := neb_t h16
      have F6 := And.intro F4 (And.intro h16 (And.intro h16_ h16__))
      refine CF (by simp [F6] <;> omega) ?_
      refine SQ [] [none, none] fun _ _ g r => ?_
      try simp [F6]
      and_intros <;> first | exact g _ (by kernel_rfl) | refine r _ _ _ ?_ | omega | (simp [maxLen, F6] <;> omega)
      refine WK [(1, Iz v1), (5, AV.ptr 0 0), (6, AV.ptr 3 0), (7, AV.ptr 6 0), (28, Iz v27), (44, AV.bool (v27 == 2))] [(0, .cells [Lz v5, Iz v28]), (3, .cells [Iz v7, AV.lst false false (List.map api_Edge.av v8), Lz v9]), (4, .grow (List.map (AV.int .i64) v11)), (5, .grow (List.map (AV.int .i64) v12)), (6, .cells [AV.slc 4 0 1 v11.length false, AV.slc 5 0 1 v12.length false, Iz v13])] 8 (by simp [F6]) (by simp [F6]) ?_
      refine AW.frz 4 (o := .grow (List.map (AV.int .i64) v11)) (by simp [F6]) rfl [] [(6, .cells [Lz v11, AV.slc 5 0 1 v12.length false, Iz v13])] trivial ⟨⟨by simp, AObj.cells [AV.slc 4 0 1 v11.length false, AV.slc 5 0 1 v12.length false, Iz v13], by simp [F6], (.mk (.cons (.l (by simp) (by simp) (by simp) (by simp)) (.cons (.same _) (.cons (.same _) .nil))))⟩, trivial⟩ ?_
      refine WK [(1, Iz v1), (5, AV.ptr 0 0), (6, AV.ptr 3 0), (7, AV.ptr 6 0), (28, Iz v27), (44, AV.bool (v27 == 2))] [(0, .cells [Lz v5, Iz v28]), (3, .cells [Iz v7, AV.lst false false (List.map api_Edge.av v8), Lz v9]), (5, .grow (List.map (AV.int .i64) v12)), (6, .cells [Lz v11, AV.slc 5 0 1 v12.length false, Iz v13])] 8 (by simp [F6]) (by simp [F6]) ?_
      by_cases h18 : v27 = 2
      ·replace hF := ite_t h18 hF
       have h18q : v27 = 2 := h18
       have h18_ := eqb_t h18q
       have h18__ := neb_f h18q
       have F7 := And.intro F6 (And.intro h18_ (And.intro h18__ h18q))
       refine CT (by simp [F7] <;> omega) ?_
       refine RG [] [none, none] fun _ _ g r => ?_
       try simp [F7]
       and_intros <;> first | exact g _ (by kernel_rfl) | refine r _ _ _ ?_ | omega | (simp [maxLen, F7] <;> omega)
       refine hK128 _ _ _ ?_
       refine RN h0 [(0, 0), (1, 3), (2, 6)] [(5, AV.ptr 0 0), (6, AV.ptr 1 0), (7, AV.ptr 2 0)] [(0, .cells [Lz v5, Iz v28]), (1, .cells [Iz v7, AV.lst false false (List.map api_Edge.av v8), Lz v9]), (2, .cells [Lz v11, AV.lst true true (List.map (AV.int .i64) ([] : List Int)), Iz v13])] 3 (by simp [F7]) (by simp [F7]) ?_
       refine Can.flg [] [(2, .cells [Lz v11, Lz ([] : List Int), Iz v13])] trivial ⟨⟨AObj.cells [Lz v11, AV.lst true true (List.map (AV.int .i64) ([] : List Int)), Iz v13], by simp [F7], (.mk (.cons (.same _) (.cons (.lst (by simp)) (.cons (.same _) .nil))))⟩, trivial⟩ (by simp) ?_
       exact JN ((v28, v7, v11, ([] : List Int), v13)) hF (by simp [F7]) (by simp [F7])
      ·replace hF := ite_f h18 hF
       have h18_ := eqb_f h18
       have h18__ := neb_t h18
       have F8 := And.intro F6 (And.intro h18 (And.intro h18_ h18__))
       refine CF (by simp [F8] <;> omega) ?_
       refine SQ [] [none, none] fun _ _ g r => ?_
       try simp [F8]
       and_intros <;> first | exact g _ (by kernel_rfl) | refine r _ _ _ ?_ | omega | (simp [maxLen, F8] <;> omega)
       refine WK [(1, Iz v1), (5, AV.ptr 0 0), (6, AV.ptr 3 0), (7, AV.ptr 6 0), (28, Iz v27), (47, AV.bool (v27 == 3))] [(0, .cells [Lz v5, Iz v28]), (3, .cells [Iz v7, AV.lst false false (List.map api_Edge.av v8), Lz v9]), (5, .grow (List.map (AV.int .i64) v12)), (6, .cells [Lz v11, AV.slc 5 0 1 v12.length false, Iz v13])] 8 (by simp [F8]) (by simp [F8]) ?_
       by_cases h19 : v27 = 3
       ·replace hF := ite_t h19 hF
        have h19q : v27 = 3 := h19
        have h19_ := eqb_t h19q
        have h19__ := neb_f h19q
        have F9 := And.intro F8 (And.intro h19_ (And.intro h19__ h19q))
        refine CT (by simp [F9] <;> omega) ?_
        refine AW.block ?_
        refine RM h0 [(0, 0), (1, 3), (2, 6), (3, 5)] [(5, AV.ptr 0 0), (6, AV.ptr 1 0), (7, AV.ptr 2 0)] [(0, .cells [Lz v5, Iz v28]), (1, .cells [Iz v7, AV.lst false false (List.map api_Edge.av v8), Lz v9]), (2, .cells [Lz v11, AV.slc 3 0 1 v12.length false, Iz v13]), (3, .grow (List.map (AV.int .i64) v12))] 4 (by simp [F9]) (by simp [F9]) ?_
        refine AW.loopF (α := (Int × (List Int))) (fun n (v29, v30) => law13_CapacityMade.L2 k v5 v7 v8 v9 v11 v13 n v29 v30 = some v2) (fun (v29, v30) => [(5, AV.ptr 0 0), (6, AV.ptr 1 0), (7, AV.ptr 2 0)]) (fun (v29, v30) => [(0, .cells [Lz v5, Iz v29]), (1, .cells [Iz v7, AV.lst false false (List.map api_Edge.av v8), Lz v9]), (2, .cells [Lz v11, AV.slc 3 0 1 v30.length false, Iz v13]), (3, .grow (List.map (AV.int .i64) v30))]) 4 k ((v28, v12)) hF (by simp [F9]) (by simp [F9]) (by simp) ?_
        rintro (_|n2) ⟨v29, v30⟩ hF K149 hK149
        ·try dsimp only at hF
         rw [law13_CapacityMade.L2] at hF; cases hF
        try dsimp only at hF
        rw [law13_CapacityMade.L2] at hF
        refine AW.seq fun K151 hK151 => ?_
        refine SQ [] [none, none, none, none, none, none, none] fun _ _ g r => ?_
        try simp [F9]
        and_intros
        try any_goals first | omega | (simp [maxLen, F9] <;> omega)
        obtain ⟨v31, v32, h20, hF⟩ := bnd2_elim hF
        refine aCall_l (w_made_Dice_Next k _ _ _ _ _ h20) (by simp) [0] [] [0] rfl (.cons (.same (by simp [F9])) (.cons (.same (by simp [F9])) .nil)) (by simp [F9]) (by decide) (by simp) (by simp) (.inl rfl) (by simp) (by simp) ?_
        try simp [F9]
        and_intros <;> first | exact g _ (by kernel_rfl) | refine r _ _ _ ?_ | omega | (simp [maxLen, F9] <;> omega)
        refine WK [(5, AV.ptr 0 0), (6, AV.ptr 1 0), (7, AV.ptr 2 0), (55, AV.bool (decide ((v30.length : Int) < IntKind.wrap .i64 (8 + v31))))] [(0, .cells [Lz v5, Iz v32]), (1, .cells [Iz v7, AV.lst false false (List.map api_Edge.av v8), Lz v9]), (2, .cells [Lz v11, AV.slc 3 0 1 v30.length false, Iz v13]), (3, .grow (List.map (AV.int .i64) v30))] 4 (by simp [F9]) (by simp [F9]) ?_
        by_cases h21 : (v30.length : Int) < IntKind.wrap .i64 (8 + v31)
        ·replace hF := ite_t h21 hF
         have h21_ := h21
         try simp at h21_
         have F10 := And.intro F9 (And.intro h21 h21_)
         refine CT (by simp [F10] <;> omega) ?_
         refine AW.skip ?_
         refine hK151 _ _ _ ?_
         refine AW.block ?_
         refine RG [] [none, none, none, none, none, none] fun _ _ g r => ?_
         obtain ⟨h22, hF⟩ := chk_elim hF
         have h22_ := h22
         try simp at h22_
         have F11 := And.intro F10 h22
         try simp [F11]
         and_intros <;> first | exact g _ (by kernel_rfl) | refine r _ _ _ ?_ | omega | (simp [maxLen, F11] <;> omega)
         refine hK149 _ _ _ ?_
         refine RN h0 [(0, 0), (1, 1), (2, 2), (3, 4)] [(5, AV.ptr 0 0), (6, AV.ptr 1 0), (7, AV.ptr 2 0)] [(0, .cells [Lz v5, Iz v32]), (1, .cells [Iz v7, AV.lst false false (List.map api_Edge.av v8), Lz v9]), (2, .cells [Lz v11, AV.slc 3 0 1 ((v30 ++ ([1] : List Int)).length) false, Iz v13]), (3, .grow (List.map (AV.int .i64) (v30 ++ ([1] : List Int))))] 4 (by simp [F11]) (by simp [F11] <;> omega) ?_
         exact NX (k' := n2) ((v32, v30 ++ ([1] : List Int))) hF (by simp [F11]) (by simp [F11])
        ·replace hF := ite_f h21 hF
         have h21_ := h21
         try simp at h21_
         have F12 := And.intro F9 (And.intro h21 h21_)
         refine CF (by simp [F12] <;> omega) ?_
         refine AW.exit ?_
         try simp
         refine hK128 _ _ _ ?_
         refine Can.freeze 3 (o := .grow (List.map (AV.int .i64) v30)) (by simp [F12]) rfl [] [(2, .cells [Lz v11, Lz v30, Iz v13])] trivial ⟨⟨by simp, AObj.cells [Lz v11, AV.slc 3 0 1 v30.length false, Iz v13], by simp [F12], (.mk (.cons (.same _) (.cons (.l (by simp) (by simp) (by simp) (by simp)) (.cons (.same _) .nil))))⟩, trivial⟩ ?_
         refine RN h0 [(0, 0), (1, 1), (2, 2)] [(5, AV.ptr 0 0), (6, AV.ptr 1 0), (7, AV.ptr 2 0)] [(0, .cells [Lz v5, Iz v32]), (1, .cells [Iz v7, AV.lst false false (List.map api_Edge.av v8), Lz v9]), (2, .cells [Lz v11, Lz v30, Iz v13])] 3 (by simp [F12]) (by simp [F12]) ?_
         exact JN ((v32, v7, v11, v30, v13)) hF (by simp [F12]) (by simp [F12])
       ·replace hF := ite_f h19 hF
        have h19_ := eqb_f h19
        have h19__ := neb_t h19
        have F13 := And.intro F8 (And.intro h19 (And.intro h19_ h19__))
        refine CF (by simp [F13] <;> omega) ?_
        refine SQ [] [none, none] fun _ _ g r => ?_
        try simp [F13]
        and_intros <;> first | exact g _ (by kernel_rfl) | refine r _ _ _ ?_ | omega | (simp [maxLen, F13] <;> omega)
        refine WK [(1, Iz v1), (5, AV.ptr 0 0), (6, AV.ptr 3 0), (7, AV.ptr 6 0), (28, Iz v27), (61, AV.bool (v27 == 4))] [(0, .cells [Lz v5, Iz v28]), (3, .cells [Iz v7, AV.lst false false (List.map api_Edge.av v8), Lz v9]), (5, .grow (List.map (AV.int .i64) v12)), (6, .cells [Lz v11, AV.slc 5 0 1 v12.length false, Iz v13])] 8 (by simp [F13]) (by simp [F13]) ?_
        by_cases h23 : v27 = 4
        ·replace hF := ite_t h23 hF
         have h23q : v27 = 4 := h23
         have h23_ := eqb_t h23q
         have h23__ := neb_f h23q
         have F14 := And.intro F13 (And.intro h23_ (And.intro h23__ h23q))
         refine CT (by simp [F14] <;> omega) ?_
         refine RG [] [none, none, none, none, none, none, none, none] fun _ _ g r => ?_
         try simp [F14]
         and_intros
         try any_goals first | omega | (simp [maxLen, F14] <;> omega)
         obtain ⟨v33, v34, h24, hF⟩ := bnd2_elim hF
         refine aCall_l (w_made_Dice_Of k _ _ _ _ _ h24) (by simp) [0] [] [0] rfl (.cons (.same (by simp [F14])) (.cons (Coe.fl (by simp [F14])) .nil)) (by simp [F14]) (by decide) (by simp) (by simp) (.inl rfl) (by simp) (by simp) ?_
         obtain ⟨⟨h25, h26⟩, hF⟩ := chk_elim hF
         have h26_ := ne_of_lt h26
         have F15 := And.intro F14 (And.intro h25 (And.intro h26 h26_))
         try simp [F15]
         and_intros <;> first | exact g _ (by kernel_rfl) | refine r _ _ _ ?_ | omega | (simp [maxLen, F15] <;> omega)
         refine hK128 _ _ _ ?_
         refine Can.weak [(5, AV.ptr 0 0), (6, AV.ptr 3 0), (7, AV.ptr 6 0)] [(0, .cells [Lz v5, Iz v34]), (3, .cells [Iz v7, AV.lst false false (List.map api_Edge.av v8), Lz v9]), (5, .grow (List.map (AV.int .i64) (v12.set (0 : Int).toNat v33))), (6, .cells [Lz v11, AV.slc 5 0 1 ((v12.set (0 : Int).toNat v33).length) false, Iz v13])] 8 (by simp [F15]) (by simp [F15]) (by simp) ?_
         refine Can.freeze 5 (o := .grow (List.map (AV.int .i64) (v12.set (0 : Int).toNat v33))) (by simp [F15]) rfl [] [(6, .cells [Lz v11, Lz (v12.set (0 : Int).toNat v33), Iz v13])] trivial ⟨⟨by simp, AObj.cells [Lz v11, AV.slc 5 0 1 ((v12.set (0 : Int).toNat v33).length) false, Iz v13], by simp [F15], (.mk (.cons (.same _) (.cons (.l (by simp [-List.map_set]) (by simp [-List.map_set]) (by simp [-List.map_set]) (by simp [-List.map_set])) (.cons (.same _) .nil))))⟩, trivial⟩ ?_
         refine RN h0 [(0, 0), (1, 3), (2, 6)] [(5, AV.ptr 0 0), (6, AV.ptr 1 0), (7, AV.ptr 2 0)] [(0, .cells [Lz v5, Iz v34]), (1, .cells [Iz v7, AV.lst false false (List.map api_Edge.av v8), Lz v9]), (2, .cells [Lz v11, Lz (v12.set (0 : Int).toNat v33), Iz v13])] 3 (by simp [F15]) (by simp [F15]) ?_
         exact JN ((v34, v7, v11, v12.set (0 : Int).toNat v33, v13)) hF (by simp [F15]) (by simp [F15])
        ·replace hF := ite_f h23 hF
         have h23_ := eqb_f h23
         have h23__ := neb_t h23
         have F16 := And.intro F13 (And.intro h23 (And.intro h23_ h23__))
         refine CF (by simp [F16] <;> omega) ?_
         refine SQ [] [none, none] fun _ _ g r => ?_
         try simp [F16]
         and_intros <;> first | exact g _ (by kernel_rfl) | refine r _ _ _ ?_ | omega | (simp [maxLen, F16] <;> omega)
         refine WK [(1, Iz v1), (5, AV.ptr 0 0), (6, AV.ptr 3 0), (7, AV.ptr 6 0), (28, Iz v27), (70, AV.bool (v27 == 5))] [(0, .cells [Lz v5, Iz v28]), (3, .cells [Iz v7, AV.lst false false (List.map api_Edge.av v8), Lz v9]), (5, .grow (List.map (AV.int .i64) v12)), (6, .cells [Lz v11, AV.slc 5 0 1 v12.length false, Iz v13])] 8 (by simp [F16]) (by simp [F16]) ?_
         by_cases h27 : v27 = 5
         ·replace hF := ite_t h27 hF
          have h27q : v27 = 5 := h27
          have h27_ := eqb_t h27q
          have h27__ := neb_f h27q
          refine CT (by simp [F16, h27_, h27__, h27q] <;> omega) ?_
          refine RG [] [none, none, none, none, none, none, none, none, none, none, none, none, none, none, none, none, none] fun _ _ g r => ?_
          obtain ⟨⟨h28, h29⟩, hF⟩ := chk_elim hF
          have h29_ := ne_of_lt h29
          obtain ⟨v35, h30, h31, h32, hF⟩ := idx_elim hF
          have h32_ := get_of h32
          try simp at h32_
          have h31_ := h31
          try simp at h31_
          have F17 := And.intro F16 (And.intro h27_ (And.intro h27__ (And.intro h27q (And.intro h28 (And.intro h29 (And.intro h29_ (And.intro h30 (And.intro h31 (And.intro h32 (And.intro h32_ h31_))))))))))
          try simp [F17]
          and_intros
          try any_goals first | omega | (simp [maxLen, F17] <;> omega)
          obtain ⟨v36, v37, h33, hF⟩ := bnd2_elim hF
          refine aCall_l (w_made_Dice_Next k _ _ _ _ _ h33) (by simp) [0] [] [0] rfl (.cons (.same (by simp [F17])) (.cons (.same (by simp [F17])) .nil)) (by simp [F17]) (by decide) (by simp) (by simp) (.inl rfl) (by simp) (by simp) ?_
          obtain ⟨h34, hF⟩ := chk_elim hF
          have h34_ := h34
          try simp at h34_
          have F18 := And.intro F17 h34
          try simp [F18]
          and_intros <;> first | exact g _ (by kernel_rfl) | refine r _ _ _ ?_ | omega | (simp [maxLen, F18] <;> omega)
          refine hK128 _ _ _ ?_
          refine Can.weak [(5, AV.ptr 0 0), (6, AV.ptr 3 0), (7, AV.ptr 6 0)] [(0, .cells [Lz v5, Iz v37]), (3, .cells [Iz v7, AV.lst false false (List.map api_Edge.av v8), Lz v9]), (6, .cells [Lz v11, AV.slc 8 0 1 ((v12 ++ ([IntKind.wrap .i64 (v35 + v36)] : List Int)).length) false, Iz v13]), (8, .grow (List.map (AV.int .i64) (v12 ++ ([IntKind.wrap .i64 (v35 + v36)] : List Int))))] 9 (by simp [F18]) (by simp [F18] <;> omega) (by simp) ?_
          refine Can.freeze 8 (o := .grow (List.map (AV.int .i64) (v12 ++ ([IntKind.wrap .i64 (v35 + v36)] : List Int)))) (by simp [F18]) rfl [] [(6, .cells [Lz v11, Lz (v12 ++ ([IntKind.wrap .i64 (v35 + v36)] : List Int)), Iz v13])] trivial ⟨⟨by simp, AObj.cells [Lz v11, AV.slc 8 0 1 ((v12 ++ ([IntKind.wrap .i64 (v35 + v36)] : List Int)).length) false, Iz v13], by simp [F18], (.mk (.cons (.same _) (.cons (.l (by simp) (by simp) (by simp) (by simp)) (.cons (.same _) .nil))))⟩, trivial⟩ ?_
          refine RN h0 [(0, 0), (1, 3), (2, 6)] [(5, AV.ptr 0 0), (6, AV.ptr 1 0), (7, AV.ptr 2 0)] [(0, .cells [Lz v5, Iz v37]), (1, .cells [Iz v7, AV.lst false false (List.map api_Edge.av v8), Lz v9]), (2, .cells [Lz v11, Lz (v12 ++ ([IntKind.wrap .i64 (v35 + v36)] : List Int)), Iz v13])] 3 (by simp [F18]) (by simp [F18]) ?_
          exact JN ((v37, v7, v11, v12 ++ ([IntKind.wrap .i64 (v35 + v36)] : List Int), v13)) hF (by simp [F18]) (by simp [F18])
         ·replace hF := ite_f h27 hF
          have h27_ := eqb_f h27
          have h27__ := neb_t h27
          have F19 := And.intro F16 (And.intro h27 (And.intro h27_ h27__))
          refine CF (by simp [F19] <;> omega) ?_
          refine SQ [] [none, none] fun _ _ g r => ?_
          try simp [F19]
          and_intros <;> first | exact g _ (by kernel_rfl) | refine r _ _ _ ?_ | omega | (simp [maxLen, F19] <;> omega)
          refine WK [(1, Iz v1), (5, AV.ptr 0 0), (6, AV.ptr 3 0), (7, AV.ptr 6 0), (88, AV.bool (v27 == 6))] [(0, .cells [Lz v5, Iz v28]), (3, .cells [Iz v7, AV.lst false false (List.map api_Edge.av v8), Lz v9]), (5, .grow (List.map (AV.int .i64) v12)), (6, .cells [Lz v11, AV.slc 5 0 1 v12.length false, Iz v13])] 8 (by simp [F19]) (by simp [F19]) ?_
          refine AW.frz 5 (o := .grow (List.map (AV.int .i64) v12)) (by simp [F19]) rfl [] [(6, .cells [Lz v11, Lz v12, Iz v13])] trivial ⟨⟨by simp, AObj.cells [Lz v11, AV.slc 5 0 1 v12.length false, Iz v13], by simp [F19], (.mk (.cons (.same _) (.cons (.l (by simp) (by simp) (by simp) (by simp)) (.cons (.same _) .nil))))⟩, trivial⟩ ?_
          refine WK [(1, Iz v1), (5, AV.ptr 0 0), (6, AV.ptr 3 0), (7, AV.ptr 6 0), (88, AV.bool (v27 == 6))] [(0, .cells [Lz v5, Iz v28]), (3, .cells [Iz v7, AV.lst false false (List.map api_Edge.av v8), Lz v9]), (6, .cells [Lz v11, Lz v12, Iz v13])] 8 (by simp [F19]) (by simp [F19]) ?_
          by_cases h35 : v27 = 6
          ·replace hF := ite_t h35 hF
           have h35q : v27 = 6 := h35
           have h35_ := eqb_t h35q
           have h35__ := neb_f h35q
           have F20 := And.intro F19 (And.intro h35_ (And.intro h35__ h35q))
           refine CT (by simp [F20] <;> omega) ?_
           refine RG [] [none, none, none, none, none, none] fun _ _ g r => ?_
           try simp [F20]
           and_intros
           try any_goals first | omega | (simp [maxLen, F20] <;> omega)
           obtain ⟨v38, v39, h36, hF⟩ := bnd2_elim hF
           refine aCall_l (w_made_Dice_Of k _ _ _ _ _ h36) (by simp) [0] [] [0] rfl (.cons (.same (by simp [F20])) (.cons (Coe.fl (by simp [F20])) .nil)) (by simp [F20]) (by decide) (by simp) (by simp) (.inl rfl) (by simp) (by simp) ?_
           try simp [F20]
           and_intros <;> first | exact g _ (by kernel_rfl) | refine r _ _ _ ?_ | omega | (simp [maxLen, F20] <;> omega)
           refine hK128 _ _ _ ?_
           refine RN h0 [(0, 0), (1, 3), (2, 6)] [(5, AV.ptr 0 0), (6, AV.ptr 1 0), (7, AV.ptr 2 0)] [(0, .cells [Lz v5, Iz v39]), (1, .cells [Iz v7, AV.lst false false (List.map api_Edge.av v8), Lz v9]), (2, .cells [Lz v11, Lz v12, Iz v38])] 3 (by simp [F20]) (by simp [F20]) ?_
           exact JN ((v39, v7, v11, v12, v38)) hF (by simp [F20]) (by simp [F20])
          ·replace hF := ite_f h35 hF
           have h35_ := eqb_f h35
           have h35__ := neb_t h35
           have F21 := And.intro F19 (And.intro h35 (And.intro h35_ h35__))
           refine CF (by simp [F21] <;> omega) ?_
           refine RG [] [none, none, none, none, none] fun _ _ g r => ?_
           try simp [F21]
           and_intros
           try any_goals first | omega | (simp [maxLen, F21] <;> omega)
           obtain ⟨v40, v41, h37, hF⟩ := bnd2_elim hF
           refine aCall_l (w_made_Dice_Of k _ _ _ _ _ h37) (by simp) [0] [] [0] rfl (.cons (.same (by simp [F21])) (.cons (Coe.fl (by simp [F21])) .nil)) (by simp [F21]) (by decide) (by simp) (by simp) (.inl rfl) (by simp) (by simp) ?_
           try simp [F21]
           and_intros <;> first | exact g _ (by kernel_rfl) | refine r _ _ _ ?_ | omega | (simp [maxLen, F21] <;> omega)
           refine hK128 _ _ _ ?_
           refine RN h0 [(0, 0), (1, 3), (2, 6)] [(5, AV.ptr 0 0), (6, AV.ptr 1 0), (7, AV.ptr 2 0)] [(0, .cells [Lz v5, Iz v41]), (1, .cells [Iz v40, AV.lst false false (List.map api_Edge.av v8), Lz v9]), (2, .cells [Lz v11, Lz v12, Iz v13])] 3 (by simp [F21]) (by simp [F21]) ?_
           exact JN ((v41, v40, v11, v12, v13)) hF (by simp [F21]) (by simp [F21])
   ·rintro ⟨v18, v19, v20, v21, v22⟩ hF
    try dsimp only at hF
    unfold law13_CapacityMade.J1 at hF
    refine SQ [] [none, none, some (96, true), some (96, true), some (96, true), some (96, true), some (96, true), none, none] fun _ _ g r => ?_
    try simp [F2]
    and_intros
    try any_goals first | omega | (simp [maxLen, F2] <;> omega)
    obtain ⟨v23, h10, hF⟩ := bnd1_elim hF
    refine AC (w_law13_awake k _ h10) .nil ?_
    by_cases h11 : v23 = true
    ·replace hF := ite_t h11 hF
     have h11_ := h11
     try simp at h11_
     have F22 := And.intro F2 (And.intro h11 h11_)
     try simp [F22]
     and_intros
     try any_goals first | omega | (simp [maxLen, F22] <;> omega)
     obtain ⟨v24, v25, h12, hF⟩ := bnd2_elim hF
     refine aCall_l (w_made_Dice_Some k _ _ _ _ _ h12) (by simp) [0] [] [0] rfl (.cons (.same (by simp [F22])) (.cons (.same (by simp [F22])) .nil)) (by simp [F22]) (by decide) (by simp) (by simp) (.inl rfl) (by simp) (by simp) ?_
     try simp [F22]
     and_intros
     try any_goals first | omega | (simp [maxLen, F22] <;> omega)
     obtain ⟨v26, h13, hF⟩ := bnd1_elim hF
     refine aCall_l (w_law13_agree k _ _ _ _ _ _ _ _ h13) (by simp) [] [3] [] rfl (.cons (.same (by simp [F22])) (.cons (.same (by simp [F22])) (.cons (Coe.l (o := .grow (List.map (AV.int .i64) v24)) (by simp [F22]) rfl (by simp [F22]) (by simp [noIdsL]) (by simp [F22]) (by simp [F22])) .nil))) (by simp [F22]) (by decide) (by simp) (by simp) (.inr ⟨by simp, by simp⟩) (by simp) (by simp) ?_
     try simp [F22]
     and_intros <;> first | exact g _ (by kernel_rfl) | refine r _ _ _ ?_ | omega | (simp [maxLen, F22] <;> omega)
     refine WK [(4, AV.bool v26)] [] 4 (by simp [F22]) (by simp [F22]) ?_
     simp only [Option.some.injEq] at hF
     subst hF
     refine AW.ret (hQ _ _ _ ?_ (matchO_0 ?_)).1
     ·simp [Try.f4, F22]
     ·simp [F22]
    ·replace hF := ite_f h11 hF
     have h11_ := h11
     try simp at h11_
     have F23 := And.intro F2 (And.intro h11 h11_)
     try simp [F23]
     and_intros <;> first | exact g _ (by kernel_rfl) | refine r _ _ _ ?_ | omega | (simp [maxLen, F23] <;> omega)
     refine WK [(4, AV.bool false)] [] 3 (by simp [F23]) (by simp [F23]) ?_
     simp only [Option.some.injEq] at hF
     subst hF
     refine AW.ret (hQ _ _ _ ?_ (matchO_0 ?_)).1
     ·simp [Try.f4, F23]
     ·simp [F23]
end Go.TF
