/- Walks: the Go text computes the Lean functions (printed by a program of our own). -/
import Derived.Test.YtmiimcogppdepaaNaPu
import Derived.Test.YtmiimcogppdepaaNaAbsT
import Derived.Test.YtmiimcogppdepaaNaWa0
import Derived.Test.YtmiimcogppdepaaNaWa3
import Derived.Test.YtmiimcogppdepaaNaWa4
set_option linter.unusedVariables false
set_option linter.unusedSimpArgs false
set_option maxRecDepth 100000
set_option maxHeartbeats 4000000
namespace Go.TF
open Go Go.Abs Go.Proofs Go.Proofs.YtmiimcogppdepaaNaT
theorem w_ref13_Check (k : Nat) (v0 : Int) (v1 : (List api_Edge)) (v2 : (List Int)) (v3 : (List Int)) (v4 : (List Int)) (v5 : Int) (v6 : Int) (hF : ref13_Check k v0 v1 v2 v3 v4 v5 = some v6) :
  FCall Try.prog 37 [AV.agg [AV.int .i64 v0, AV.lst false false (List.map api_Edge.av v1), AV.lst false false (List.map (AV.int .i64) v2)], AV.agg [AV.lst false false (List.map (AV.int .i64) v3), AV.lst false false (List.map (AV.int .i64) v4), AV.int .i64 v5]] [] (AV.int .i64 v6) [] := by
 unfold ref13_Check at hF
 refine EN Try.func37 ?_
 intro c0 w0 Q h0 hQ
 refine WK [(0, AV.agg [Iz v0, AV.lst false false (List.map api_Edge.av v1), Lz v2]), (1, AV.agg [Lz v3, Lz v4, Iz v5])] [] 0 (by simp) (by simp) ?_
 refine SQ [] [none, none, none] fun _ _ g r => ?_
 try simp
 and_intros <;> first | exact g _ (by kernel_rfl) | refine r _ _ _ ?_ | omega | (simp [maxLen] <;> omega)
 refine WK [(2, AV.ptr 0 0), (3, AV.ptr 1 0)] [(0, .cells [Iz v0, AV.lst false false (List.map api_Edge.av v1), Lz v2]), (1, .cells [Lz v3, Lz v4, Iz v5])] 2 (by simp) (by simp) ?_
 refine AW.seq fun K16 hK16 => ?_
 refine SQ [] [none, none, none] fun _ _ g r => ?_
 try simp
 and_intros
 try any_goals first | omega | (simp [maxLen] <;> omega)
 obtain ⟨v7, h1, hF⟩ := bnd1_elim hF
 refine AC (w_ref11_Check k _ _ _ _ h1) (.cons (.same (by simp)) .nil) ?_
 try simp
 and_intros <;> first | exact g _ (by kernel_rfl) | refine r _ _ _ ?_ | omega | (simp [maxLen] <;> omega)
 refine WK [(2, AV.ptr 0 0), (3, AV.ptr 1 0), (7, AV.bool (v7 != 0))] [(0, .cells [Iz v0, AV.lst false false (List.map api_Edge.av v1), Lz v2]), (1, .cells [Lz v3, Lz v4, Iz v5])] 2 (by simp) (by simp) ?_
 by_cases h2 : v7 ≠ 0
 ·replace hF := ite_t h2 hF
  have h2_ := eqb_f h2
  have h2__ := neb_t h2
  have F1 := And.intro h2 (And.intro h2_ h2__)
  refine CT (by simp [F1] <;> omega) ?_
  refine SQ [] [none] fun _ _ g r => ?_
  try simp [F1]
  and_intros <;> first | exact g _ (by kernel_rfl) | refine r _ _ _ ?_ | omega | (simp [maxLen, F1] <;> omega)
  refine WK [(4, Iz 14)] [] 2 (by simp [F1]) (by simp [F1]) ?_
  simp only [Option.some.injEq] at hF
  subst hF
  refine AW.ret (hQ _ _ _ ?_ (matchO_0 ?_)).1
  ·simp [Try.f37, F1]
  ·simp [F1]
 ·replace hF := ite_f h2 hF
  have h2q : v7 = 0 := Classical.not_not.1 h2
  have h2_ := eqb_t h2q
  have h2__ := neb_f h2q
  have F2 := And.intro h2_ (And.intro h2__ h2q)
  refine CF (by simp [F2] <;> omega) ?_
  refine AW.skip ?_
  refine hK16 _ _ _ ?_
  refine AW.seq fun K21 hK21 => ?_
  refine SQ [] [none, none, none, none] fun _ _ g r => ?_
  try simp [F2]
  and_intros
  try any_goals first | omega | (simp [maxLen, F2] <;> omega)
  obtain ⟨v8, h3, hF⟩ := bnd1_elim hF
  refine AC (w_ref13_policy k _ _ _ _ _ _ _ h3) (.cons (.same (by simp [F2])) (.cons (.same (by simp [F2])) .nil)) ?_
  try simp [F2]
  and_intros <;> first | exact g _ (by kernel_rfl) | refine r _ _ _ ?_ | omega | (simp [maxLen, F2] <;> omega)
  refine WK [(11, AV.bool (!v8))] [] 2 (by simp [F2]) (by simp [F2]) ?_
  by_cases h4 : (!v8) = true
  ·replace hF := ite_t h4 hF
   have h4_ := h4
   try simp at h4_
   have F3 := And.intro F2 (And.intro h4 h4_)
   refine CT (by simp [F3] <;> omega) ?_
   refine SQ [] [none] fun _ _ g r => ?_
   try simp [F3]
   and_intros <;> first | exact g _ (by kernel_rfl) | refine r _ _ _ ?_ | omega | (simp [maxLen, F3] <;> omega)
   refine WK [(4, Iz 15)] [] 2 (by simp [F3]) (by simp [F3]) ?_
   simp only [Option.some.injEq] at hF
   subst hF
   refine AW.ret (hQ _ _ _ ?_ (matchO_0 ?_)).1
   ·simp [Try.f37, F3]
   ·simp [F3]
  ·replace hF := ite_f h4 hF
   have h4_ := h4
   try simp at h4_
   have F4 := And.intro F2 (And.intro h4 h4_)
   refine CF (by simp [F4] <;> omega) ?_
   refine AW.skip ?_
   refine hK21 _ _ _ ?_
   refine SQ [] [none] fun _ _ g r => ?_
   try simp [F4]
   and_intros <;> first | exact g _ (by kernel_rfl) | refine r _ _ _ ?_ | omega | (simp [maxLen, F4] <;> omega)
   refine WK [(4, Iz 0)] [] 2 (by simp [F4]) (by simp [F4]) ?_
   simp only [Option.some.injEq] at hF
   subst hF
   refine AW.ret (hQ _ _ _ ?_ (matchO_0 ?_)).1
   ·simp [Try.f37, F4]
   ·simp [F4]
abbrev c_ref11_Level  : AObj := .cells [Iz 0, AV.slc 2 0 3 (([] : List api_Edge).length) false, AV.lst true true (List.map (AV.int .i64) ([] : List Int))]
abbrev c_ref11_Level1  : AObj := .cells [Iz 0, AV.lst true true (List.map api_Edge.av ([] : List api_Edge)), AV.lst true true (List.map (AV.int .i64) ([] : List Int))]
theorem w_ref11_Level (k : Nat) (v0 : Int) (v1 : (List api_Edge)) (v2 : (List Int)) (v3 : Int) (v4 : Int) (v5 : (List api_Edge)) (v6 : (List Int)) (hF : ref11_Level k v0 v1 v2 v3 = some (v4, v5, v6)) :
  FCall Try.prog 54 [AV.agg [AV.int .i64 v0, AV.lst false false (List.map api_Edge.av v1), AV.lst false false (List.map (AV.int .i64) v2)], AV.int .i64 v3] [] (AV.agg [AV.int .i64 v4, AV.slc 0 0 3 v5.length false, AV.lst false false (List.map (AV.int .i64) v6)]) [some (.grow (flatA (List.map api_Edge.av v5)))] := by
 unfold ref11_Level at hF
 refine EN Try.func54 ?_
 intro c0 w0 Q h0 hQ
 refine WK [(0, AV.agg [Iz v0, AV.lst false false (List.map api_Edge.av v1), Lz v2]), (1, Iz v3)] [] 0 (by simp) (by simp) ?_
 refine SQ [] [none, none] fun _ _ g r => ?_
 try simp
 and_intros <;> first | exact g _ (by kernel_rfl) | refine r _ _ _ ?_ | omega | (simp [maxLen] <;> omega)
 refine WK [(1, Iz v3), (2, AV.ptr 0 0), (4, AV.ptr 1 0)] [(0, .cells [Iz v0, AV.lst false false (List.map api_Edge.av v1), Lz v2]), (1, c_ref11_Level1 )] 2 (by simp) (by simp) ?_
 refine SQ [] [none, none, none, none] fun _ _ g r => ?_
 try simp
 and_intros
 try any_goals first | omega | (simp [maxLen] <;> omega)
 obtain ⟨v7, v8, v9, h1, hF⟩ := bnd3_elim hF
 refine AC (w_ref11_Copy_o k _ _ _ _ _ _ h1) (.cons (.same (by simp)) .nil) ?_
 try simp
 and_intros <;> first | exact g _ (by kernel_rfl) | refine r _ _ _ ?_ | omega | (simp [maxLen] <;> omega)
 refine WK [(1, Iz v3), (2, AV.ptr 0 0), (4, AV.ptr 1 0), (5, AV.ptr 4 0)] [(0, .cells [Iz v0, AV.lst false false (List.map api_Edge.av v1), Lz v2]), (1, c_ref11_Level1 ), (2, .grow (flatA (List.map api_Edge.av v8))), (3, .grow (List.map (AV.int .i64) v9)), (4, .cells [Iz v7, AV.slc 2 0 3 v8.length false, AV.slc 3 0 1 v9.length false])] 5 (by simp) (by simp) ?_
 refine AW.frz 3 (o := .grow (List.map (AV.int .i64) v9)) (by simp) rfl [] [(4, .cells [Iz v7, AV.slc 2 0 3 v8.length false, Lz v9])] trivial ⟨⟨by simp, AObj.cells [Iz v7, AV.slc 2 0 3 v8.length false, AV.slc 3 0 1 v9.length false], by simp, (.mk (.cons (.same _) (.cons (.same _) (.cons (.l (by simp) (by simp) (by simp) (by simp)) .nil))))⟩, trivial⟩ ?_
 refine WK [(1, Iz v3), (2, AV.ptr 0 0), (4, AV.ptr 1 0), (5, AV.ptr 4 0)] [(0, .cells [Iz v0, AV.lst false false (List.map api_Edge.av v1), Lz v2]), (1, c_ref11_Level1 ), (2, .grow (flatA (List.map api_Edge.av v8))), (4, .cells [Iz v7, AV.slc 2 0 3 v8.length false, Lz v9])] 5 (by simp) (by simp) ?_
 refine SQ [] [none, none] fun _ _ g r => ?_
 try simp
 and_intros <;> first | exact g _ (by kernel_rfl) | refine r _ _ _ ?_ | omega | (simp [maxLen] <;> omega)
 refine WK [(1, Iz v3), (2, AV.ptr 0 0), (4, AV.ptr 1 0), (5, AV.ptr 4 0)] [(0, .cells [Iz v0, AV.lst false false (List.map api_Edge.av v1), Lz v2]), (1, c_ref11_Level1 ), (4, .cells [Iz v7, AV.lst true true (List.map api_Edge.av ([] : List api_Edge)), Lz v9])] 5 (by simp) (by simp) ?_
 refine AW.seq fun K123 hK123 => ?_
 refine SQ [] [none] fun _ _ g r => ?_
 try simp
 and_intros <;> first | exact g _ (by kernel_rfl) | refine r _ _ _ ?_ | omega | (simp [maxLen] <;> omega)
 refine WK [(1, Iz v3), (2, AV.ptr 0 0), (4, AV.ptr 1 0), (5, AV.ptr 4 0), (6, Iz 0)] [(0, .cells [Iz v0, AV.lst false false (List.map api_Edge.av v1), Lz v2]), (1, c_ref11_Level1 ), (4, .cells [Iz v7, AV.lst true true (List.map api_Edge.av ([] : List api_Edge)), Lz v9])] 5 (by simp) (by simp) ?_
 refine AW.block ?_
 refine AW.ownC 1 1 3 true (cs := [Iz 0, AV.lst true true (List.map api_Edge.av ([] : List api_Edge)), AV.lst true true (List.map (AV.int .i64) ([] : List Int))]) (by simp) (by simp) ?_
 refine AW.ownC 4 1 3 true (cs := [Iz v7, AV.lst true true (List.map api_Edge.av ([] : List api_Edge)), Lz v9]) (by simp) (by simp) ?_
 refine RM h0 [(0, 0), (1, 1), (2, 5), (3, 4), (4, 6)] [(1, Iz v3), (2, AV.ptr 0 0), (4, AV.ptr 1 0), (5, AV.ptr 3 0), (6, Iz 0)] [(0, .cells [Iz v0, AV.lst false false (List.map api_Edge.av v1), Lz v2]), (1, c_ref11_Level ), (2, .grow (flatA (List.map api_Edge.av ([] : List api_Edge)))), (3, .cells [Iz v7, AV.slc 4 0 3 (([] : List api_Edge).length) false, Lz v9]), (4, .grow (flatA (List.map api_Edge.av ([] : List api_Edge))))] 5 (by simp) (by simp) ?_
 refine AW.loopF (α := (Int × (List api_Edge))) (fun n (v10, v11) => ref11_Level.L1 k v1 v3 v7 v9 n v10 v11 = some (v4, v5, v6)) (fun (v10, v11) => [(1, Iz v3), (2, AV.ptr 0 0), (4, AV.ptr 1 0), (5, AV.ptr 3 0), (6, Iz v10)]) (fun (v10, v11) => [(0, .cells [Iz v0, AV.lst false false (List.map api_Edge.av v1), Lz v2]), (1, c_ref11_Level ), (2, .grow (flatA (List.map api_Edge.av ([] : List api_Edge)))), (3, .cells [Iz v7, AV.slc 4 0 3 v11.length false, Lz v9]), (4, .grow (flatA (List.map api_Edge.av v11)))]) 5 k ((0, ([] : List api_Edge))) hF (by simp) (by simp) (by simp) ?_
 rintro (_|n1) ⟨v10, v11⟩ hF K152 hK152
 ·try dsimp only at hF
  rw [ref11_Level.L1] at hF; cases hF
 try dsimp only at hF
 rw [ref11_Level.L1] at hF
 refine AW.seq fun K154 hK154 => ?_
 refine SQ [] [none, none, none, none, none] fun _ _ g r => ?_
 try simp
 and_intros <;> first | exact g _ (by kernel_rfl) | refine r _ _ _ ?_ | omega | (simp [maxLen] <;> omega)
 refine WK [(1, Iz v3), (2, AV.ptr 0 0), (4, AV.ptr 1 0), (5, AV.ptr 3 0), (6, Iz v10), (14, AV.bool (decide (v10 < (v1.length : Int))))] [(0, .cells [Iz v0, AV.lst false false (List.map api_Edge.av v1), Lz v2]), (1, c_ref11_Level ), (2, .grow (flatA (List.map api_Edge.av ([] : List api_Edge)))), (3, .cells [Iz v7, AV.slc 4 0 3 v11.length false, Lz v9]), (4, .grow (flatA (List.map api_Edge.av v11)))] 5 (by simp) (by simp) ?_
 by_cases h2 : v10 < (v1.length : Int)
 ·replace hF := ite_t h2 hF
  have h2_ := h2
  try simp at h2_
  refine CT (by simp [h2, h2_] <;> omega) ?_
  refine AW.skip ?_
  refine hK154 _ _ _ ?_
  refine AW.midF (α := (List api_Edge)) (fun v12 => ref11_Level.J2 k v10 (fun v10_ v11_ => ref11_Level.L1 k v1 v3 v7 v9 n1 v10_ v11_) v12 = some (v4, v5, v6)) (fun v12 => [(1, Iz v3), (2, AV.ptr 0 0), (4, AV.ptr 1 0), (5, AV.ptr 3 0), (6, Iz v10)]) (fun v12 => [(0, .cells [Iz v0, AV.lst false false (List.map api_Edge.av v1), Lz v2]), (1, c_ref11_Level ), (2, .grow (flatA (List.map api_Edge.av ([] : List api_Edge)))), (3, .cells [Iz v7, AV.slc 4 0 3 v12.length false, Lz v9]), (4, .grow (flatA (List.map api_Edge.av v12)))]) 5 (fun K159 hK159 => ?_) ?_
  ·refine AW.block ?_
   refine SQ [] [none, none, none, none, none, none, none, none] fun _ _ g r => ?_
   obtain ⟨v13, h3, h4, h5, hF⟩ := idx_elim hF
   have h5_ := get_of h5
   try simp at h5_
   have h4_ := h4
   try simp at h4_
   have F1 := And.intro h2 (And.intro h2_ (And.intro h3 (And.intro h4 (And.intro h5 (And.intro h5_ h4_)))))
   try simp [F1]
   and_intros <;> first | exact g _ (by kernel_rfl) | refine r _ _ _ ?_ | omega | (simp [maxLen, F1] <;> omega)
   refine WK [(1, Iz v3), (2, AV.ptr 0 0), (4, AV.ptr 1 0), (5, AV.ptr 3 0), (6, Iz v10), (24, AV.bool (decide (v3 ≤ v13.Level)))] [(0, .cells [Iz v0, AV.lst false false (List.map api_Edge.av v1), Lz v2]), (1, c_ref11_Level ), (2, .grow (flatA (List.map api_Edge.av ([] : List api_Edge)))), (3, .cells [Iz v7, AV.slc 4 0 3 v11.length false, Lz v9]), (4, .grow (flatA (List.map api_Edge.av v11)))] 5 (by simp [F1]) (by simp [F1]) ?_
   by_cases h6 : v3 ≤ v13.Level
   ·replace hF := ite_t h6 hF
    have h6_ := h6
    try simp at h6_
    have F2 := And.intro F1 (And.intro h6 h6_)
    refine CT (by simp [F2] <;> omega) ?_
    refine RG [] [none, none, none, none, none, none, none, none, none, none, none] fun _ _ g r => ?_
    obtain ⟨h7, hF⟩ := chk_elim hF
    have h7_ := h7
    try simp at h7_
    have F3 := And.intro F2 h7
    try simp [F3]
    and_intros <;> first | exact g _ (by kernel_rfl) | refine r _ _ _ ?_ | omega | (simp [maxLen, F3] <;> omega)
    refine hK159 _ _ _ ?_
    refine RN h0 [(0, 0), (1, 1), (2, 2), (3, 3), (4, 5)] [(1, Iz v3), (2, AV.ptr 0 0), (4, AV.ptr 1 0), (5, AV.ptr 3 0), (6, Iz v10)] [(0, .cells [Iz v0, AV.lst false false (List.map api_Edge.av v1), Lz v2]), (1, c_ref11_Level ), (2, .grow (flatA (List.map api_Edge.av ([] : List api_Edge)))), (3, .cells [Iz v7, AV.slc 4 0 3 ((v11 ++ ([v13] : List api_Edge)).length) false, Lz v9]), (4, .grow (flatA (List.map api_Edge.av (v11 ++ ([v13] : List api_Edge)))))] 5 (by simp [F3]) (by simp [F3] <;> omega) ?_
    exact JN (v11 ++ ([v13] : List api_Edge)) hF (by simp [F3]) (by simp [F3])
   ·replace hF := ite_f h6 hF
    have h6_ := h6
    try simp at h6_
    have F4 := And.intro F1 (And.intro h6 h6_)
    refine CF (by simp [F4] <;> omega) ?_
    refine AW.skip ?_
    refine hK159 _ _ _ ?_
    exact JN (v11) hF (by simp [F4]) (by simp [F4])
  ·rintro v12 hF
   try dsimp only at hF
   unfold ref11_Level.J2 at hF
   refine RG [] [none, none, none] fun _ _ g r => ?_
   try simp [h2, h2_]
   and_intros <;> first | exact g _ (by kernel_rfl) | refine r _ _ _ ?_ | omega | (simp [h2, h2_, maxLen] <;> omega)
   refine hK152 _ _ _ ?_
   exact NX (k' := n1) ((IntKind.wrap .i64 (v10 + 1), v12)) hF (by simp [h2, h2_]) (by simp [h2, h2_])
 ·replace hF := ite_f h2 hF
  have h2_ := h2
  try simp at h2_
  refine CF (by simp [h2, h2_] <;> omega) ?_
  refine AW.exit ?_
  try simp
  refine hK123 _ _ _ ?_
  refine SQ [] [none, none] fun _ _ g r => ?_
  try simp [h2, h2_]
  and_intros <;> first | exact g _ (by kernel_rfl) | refine r _ _ _ ?_ | omega | (simp [h2, h2_, maxLen] <;> omega)
  refine RM h0 [(0, 4), (1, 1)] [(4, AV.ptr 1 0)] [(0, .grow (flatA (List.map api_Edge.av v11))), (1, .cells [Iz v7, AV.slc 0 0 3 v11.length false, Lz v9])] 2 (by simp [h2, h2_]) (by simp [h2, h2_]) ?_
  simp only [Option.some.injEq, Prod.mk.injEq] at hF
  obtain ⟨e0, e1, e2⟩ := hF
  subst e0 e1 e2
  refine AW.ret (hQ _ _ _ ?_ (matchO_0 ?_)).1
  ·simp [Try.f54, h2, h2_]
  ·simp [h2, h2_]
theorem w_ref12_All (k : Nat) (v0 : Int) (v1 : (List api_Edge)) (v2 : (List Int)) (v3 : (List Int)) (v4 : (List Int)) (hF : ref12_All k v0 v1 v2 v3 = some v4) :
  FCall Try.prog 53 [AV.agg [AV.int .i64 v0, AV.lst false false (List.map api_Edge.av v1), AV.lst false false (List.map (AV.int .i64) v2)], AV.lst false false (List.map (AV.int .i64) v3)] [] (AV.slc 0 0 1 v4.length false) [some (.grow (List.map (AV.int .i64) v4))] := by
 unfold ref12_All at hF
 refine EN Try.func53 ?_
 intro c0 w0 Q h0 hQ
 refine WK [(0, AV.agg [Iz v0, AV.lst false false (List.map api_Edge.av v1), Lz v2]), (1, Lz v3)] [] 0 (by simp) (by simp) ?_
 refine SQ [] [none, none] fun _ _ g r => ?_
 try simp
 and_intros <;> first | exact g _ (by kernel_rfl) | refine r _ _ _ ?_ | omega | (simp [maxLen] <;> omega)
 refine WK [(1, Lz v3), (2, AV.ptr 0 0)] [(0, .cells [Iz v0, AV.lst false false (List.map api_Edge.av v1), Lz v2])] 1 (by simp) (by simp) ?_
 refine SQ [] [none] fun _ _ g r => ?_
 try simp
 and_intros <;> first | exact g _ (by kernel_rfl) | refine r _ _ _ ?_ | omega | (simp [maxLen] <;> omega)
 refine WK [(1, Lz v3), (2, AV.ptr 0 0), (5, AV.lst true true (List.map (AV.int .i64) ([] : List Int)))] [(0, .cells [Iz v0, AV.lst false false (List.map api_Edge.av v1), Lz v2])] 1 (by simp) (by simp) ?_
 refine AW.seq fun K926 hK926 => ?_
 refine SQ [] [none] fun _ _ g r => ?_
 try simp
 and_intros <;> first | exact g _ (by kernel_rfl) | refine r _ _ _ ?_ | omega | (simp [maxLen] <;> omega)
 refine WK [(1, Lz v3), (2, AV.ptr 0 0), (5, AV.lst true true (List.map (AV.int .i64) ([] : List Int))), (6, Iz 0)] [(0, .cells [Iz v0, AV.lst false false (List.map api_Edge.av v1), Lz v2])] 1 (by simp) (by simp) ?_
 refine AW.block ?_
 refine AW.own' 5 1 true (by simp) (by decide) ?_
 refine AW.loopF (α := (Int × (List Int))) (fun n (v5, v6) => ref12_All.L1 k v0 v1 v2 v3 n v5 v6 = some v4) (fun (v5, v6) => [(1, Lz v3), (2, AV.ptr 0 0), (5, AV.slc 1 0 1 v6.length false), (6, Iz v5)]) (fun (v5, v6) => [(0, .cells [Iz v0, AV.lst false false (List.map api_Edge.av v1), Lz v2]), (1, .grow (List.map (AV.int .i64) v6))]) 2 k ((0, ([] : List Int))) hF (by simp) (by simp) (by simp) ?_
 rintro (_|n1) ⟨v5, v6⟩ hF K961 hK961
 ·try dsimp only at hF
  rw [ref12_All.L1] at hF; cases hF
 try dsimp only at hF
 rw [ref12_All.L1] at hF
 refine AW.seq fun K963 hK963 => ?_
 refine SQ [] [none, none, none, none] fun _ _ g r => ?_
 try simp
 and_intros <;> first | exact g _ (by kernel_rfl) | refine r _ _ _ ?_ | omega | (simp [maxLen] <;> omega)
 refine WK [(1, Lz v3), (2, AV.ptr 0 0), (5, AV.slc 1 0 1 v6.length false), (6, Iz v5), (13, AV.bool (decide (v5 < v0)))] [(0, .cells [Iz v0, AV.lst false false (List.map api_Edge.av v1), Lz v2]), (1, .grow (List.map (AV.int .i64) v6))] 2 (by simp) (by simp) ?_
 by_cases h1 : v5 < v0
 ·replace hF := ite_t h1 hF
  have h1_ := h1
  try simp at h1_
  refine CT (by simp [h1, h1_] <;> omega) ?_
  refine AW.skip ?_
  refine hK963 _ _ _ ?_
  refine AW.midF (α := (List Int)) (fun v7 => ref12_All.J2 k v5 (fun v5_ v6_ => ref12_All.L1 k v0 v1 v2 v3 n1 v5_ v6_) v7 = some v4) (fun v7 => [(1, Lz v3), (2, AV.ptr 0 0), (5, AV.slc 1 0 1 v7.length false), (6, Iz v5)]) (fun v7 => [(0, .cells [Iz v0, AV.lst false false (List.map api_Edge.av v1), Lz v2]), (1, .grow (List.map (AV.int .i64) v7))]) 2 (fun K969 hK969 => ?_) ?_
  ·refine AW.block ?_
   refine SQ [] [none, none, none, none] fun _ _ g r => ?_
   obtain ⟨h2, hF⟩ := chk_elim hF
   have h2_ := h2
   try simp at h2_
   have F1 := And.intro h1 (And.intro h1_ h2)
   try simp [F1]
   and_intros <;> first | exact g _ (by kernel_rfl) | refine r _ _ _ ?_ | omega | (simp [maxLen, F1] <;> omega)
   refine WK [(1, Lz v3), (2, AV.ptr 0 0), (5, AV.slc 2 0 1 ((v6 ++ ([-1] : List Int)).length) false), (6, Iz v5)] [(0, .cells [Iz v0, AV.lst false false (List.map api_Edge.av v1), Lz v2]), (2, .grow (List.map (AV.int .i64) (v6 ++ ([-1] : List Int))))] 3 (by simp [F1] <;> omega) (by simp [F1]) ?_
   refine SQ [] [none, none, none, none, some (22, true), some (22, true), some (22, true), some (22, true), some (22, true), none] fun _ _ g r => ?_
   try simp [F1]
   and_intros
   try any_goals first | omega | (simp [maxLen, F1] <;> omega)
   obtain ⟨v8, h3, hF⟩ := bnd1_elim hF
   refine AC (w_ref11_Has k _ _ _ h3) (.cons (.same (by simp [F1])) (.cons (.same (by simp [F1])) .nil)) ?_
   by_cases h4 : v8 = true
   ·replace hF := ite_t h4 hF
    have h4_ := h4
    try simp at h4_
    have F2 := And.intro F1 (And.intro h4 h4_)
    try simp [F2]
    and_intros
    try any_goals first | omega | (simp [maxLen, F2] <;> omega)
    obtain ⟨v9, h5, hF⟩ := bnd1_elim hF
    refine AC (w_ref11_Has k _ _ _ h5) (.cons (.same (by simp [F2])) (.cons (.same (by simp [F2])) .nil)) ?_
    try simp [F2]
    and_intros <;> first | exact g _ (by kernel_rfl) | refine r _ _ _ ?_ | omega | (simp [maxLen, F2] <;> omega)
    refine WK [(1, Lz v3), (2, AV.ptr 0 0), (5, AV.slc 2 0 1 ((v6 ++ ([-1] : List Int)).length) false), (6, Iz v5), (28, AV.bool (!v9))] [(0, .cells [Iz v0, AV.lst false false (List.map api_Edge.av v1), Lz v2]), (2, .grow (List.map (AV.int .i64) (v6 ++ ([-1] : List Int))))] 3 (by simp [F2] <;> omega) (by simp [F2]) ?_
    by_cases h6 : (!v9) = true
    ·replace hF := ite_t h6 hF
     have h6_ := h6
     try simp at h6_
     have F3 := And.intro F2 (And.intro h6 h6_)
     refine CT (by simp [F3] <;> omega) ?_
     refine RG [] [none, none, none, none] fun _ _ g r => ?_
     obtain ⟨⟨h7, h8⟩, hF⟩ := chk_elim hF
     have h8_ := ne_of_lt h8
     have h8s := h8
     try simp at h8s
     have F4 := And.intro F3 (And.intro h7 (And.intro h8 (And.intro h8_ h8s)))
     try simp [F4]
     and_intros <;> first | exact g _ (by kernel_rfl) | refine r _ _ _ ?_ | omega | (simp [maxLen, F4] <;> omega)
     refine hK969 _ _ _ ?_
     refine RN h0 [(0, 0), (1, 2)] [(1, Lz v3), (2, AV.ptr 0 0), (5, AV.slc 1 0 1 (((v6 ++ ([-1] : List Int)).set (v5).toNat 0).length) false), (6, Iz v5)] [(0, .cells [Iz v0, AV.lst false false (List.map api_Edge.av v1), Lz v2]), (1, .grow (List.map (AV.int .i64) ((v6 ++ ([-1] : List Int)).set (v5).toNat 0)))] 2 (by simp [F4] <;> omega) (by simp [F4]) ?_
     exact JN ((v6 ++ ([-1] : List Int)).set (v5).toNat 0) hF (by simp [F4]) (by simp [F4])
    ·replace hF := ite_f h6 hF
     have h6_ := h6
     try simp at h6_
     have F5 := And.intro F2 (And.intro h6 h6_)
     refine CF (by simp [F5] <;> omega) ?_
     refine AW.skip ?_
     refine hK969 _ _ _ ?_
     refine RN h0 [(0, 0), (1, 2)] [(1, Lz v3), (2, AV.ptr 0 0), (5, AV.slc 1 0 1 ((v6 ++ ([-1] : List Int)).length) false), (6, Iz v5)] [(0, .cells [Iz v0, AV.lst false false (List.map api_Edge.av v1), Lz v2]), (1, .grow (List.map (AV.int .i64) (v6 ++ ([-1] : List Int))))] 2 (by simp [F5]) (by simp [F5]) ?_
     exact JN (v6 ++ ([-1] : List Int)) hF (by simp [F5]) (by simp [F5])
   ·replace hF := ite_f h4 hF
    have h4_ := h4
    try simp at h4_
    have F6 := And.intro F1 (And.intro h4 h4_)
    try simp [F6]
    and_intros <;> first | exact g _ (by kernel_rfl) | refine r _ _ _ ?_ | omega | (simp [maxLen, F6] <;> omega)
    refine WK [(1, Lz v3), (2, AV.ptr 0 0), (5, AV.slc 2 0 1 ((v6 ++ ([-1] : List Int)).length) false), (6, Iz v5), (28, AV.bool false)] [(0, .cells [Iz v0, AV.lst false false (List.map api_Edge.av v1), Lz v2]), (2, .grow (List.map (AV.int .i64) (v6 ++ ([-1] : List Int))))] 3 (by simp [F6] <;> omega) (by simp [F6]) ?_
    refine CF (by simp [F6]) ?_
    refine AW.skip ?_
    refine hK969 _ _ _ ?_
    refine RN h0 [(0, 0), (1, 2)] [(1, Lz v3), (2, AV.ptr 0 0), (5, AV.slc 1 0 1 ((v6 ++ ([-1] : List Int)).length) false), (6, Iz v5)] [(0, .cells [Iz v0, AV.lst false false (List.map api_Edge.av v1), Lz v2]), (1, .grow (List.map (AV.int .i64) (v6 ++ ([-1] : List Int))))] 2 (by simp [F6]) (by simp [F6]) ?_
    exact JN (v6 ++ ([-1] : List Int)) hF (by simp [F6]) (by simp [F6])
  ·rintro v7 hF
   try dsimp only at hF
   unfold ref12_All.J2 at hF
   refine RG [] [none, none, none] fun _ _ g r => ?_
   try simp [h1, h1_]
   and_intros <;> first | exact g _ (by kernel_rfl) | refine r _ _ _ ?_ | omega | (simp [h1, h1_, maxLen] <;> omega)
   refine hK961 _ _ _ ?_
   exact NX (k' := n1) ((IntKind.wrap .i64 (v5 + 1), v7)) hF (by simp [h1, h1_]) (by simp [h1, h1_])
 ·replace hF := ite_f h1 hF
  have h1_ := h1
  try simp at h1_
  refine CF (by simp [h1, h1_] <;> omega) ?_
  refine AW.exit ?_
  try simp
  refine hK926 _ _ _ ?_
  refine AW.seq fun K1363 hK1363 => ?_
  refine SQ [] [none] fun _ _ g r => ?_
  try simp [h1, h1_]
  and_intros <;> first | exact g _ (by kernel_rfl) | refine r _ _ _ ?_ | omega | (simp [h1, h1_, maxLen] <;> omega)
  refine WK [(2, AV.ptr 0 0), (5, AV.slc 1 0 1 v6.length false), (7, Iz 0)] [(0, .cells [Iz v0, AV.lst false false (List.map api_Edge.av v1), Lz v2]), (1, .grow (List.map (AV.int .i64) v6))] 2 (by simp [h1, h1_]) (by simp [h1, h1_]) ?_
  refine AW.block ?_
  refine AW.loopF (α := (Int × (List Int))) (fun n (v10, v11) => ref12_All.L3 k v0 v1 n v10 v11 = some v4) (fun (v10, v11) => [(2, AV.ptr 0 0), (5, AV.slc 1 0 1 v11.length false), (7, Iz v10)]) (fun (v10, v11) => [(0, .cells [Iz v0, AV.lst false false (List.map api_Edge.av v1), Lz v2]), (1, .grow (List.map (AV.int .i64) v11))]) 2 k ((0, v6)) hF (by simp [h1, h1_]) (by simp [h1, h1_]) (by simp) ?_
  rintro (_|n3) ⟨v10, v11⟩ hF K1656 hK1656
  ·try dsimp only at hF
   rw [ref12_All.L3] at hF; cases hF
  try dsimp only at hF
  rw [ref12_All.L3] at hF
  refine AW.seq fun K1658 hK1658 => ?_
  refine SQ [] [none, none, none, none] fun _ _ g r => ?_
  try simp [h1, h1_]
  and_intros <;> first | exact g _ (by kernel_rfl) | refine r _ _ _ ?_ | omega | (simp [h1, h1_, maxLen] <;> omega)
  refine WK [(2, AV.ptr 0 0), (5, AV.slc 1 0 1 v11.length false), (7, Iz v10), (35, AV.bool (decide (v10 < v0)))] [(0, .cells [Iz v0, AV.lst false false (List.map api_Edge.av v1), Lz v2]), (1, .grow (List.map (AV.int .i64) v11))] 2 (by simp [h1, h1_]) (by simp [h1, h1_]) ?_
  by_cases h9 : v10 < v0
  ·replace hF := ite_t h9 hF
   have h9_ := h9
   try simp at h9_
   have F7 := And.intro h1 (And.intro h1_ (And.intro h9 h9_))
   refine CT (by simp [F7] <;> omega) ?_
   refine AW.skip ?_
   refine hK1658 _ _ _ ?_
   refine AW.seq fun K1706 hK1706 => ?_
   refine AW.block ?_
   refine SQ [] [none] fun _ _ g r => ?_
   try simp [F7]
   and_intros <;> first | exact g _ (by kernel_rfl) | refine r _ _ _ ?_ | omega | (simp [maxLen, F7] <;> omega)
   refine WK [(2, AV.ptr 0 0), (5, AV.slc 1 0 1 v11.length false), (7, Iz v10), (8, Iz 0)] [(0, .cells [Iz v0, AV.lst false false (List.map api_Edge.av v1), Lz v2]), (1, .grow (List.map (AV.int .i64) v11))] 2 (by simp [F7]) (by simp [F7]) ?_
   refine AW.block ?_
   refine AW.loopF (α := (Int × (List Int))) (fun n (v12, v13) => ref12_All.L4 k v1 v10 (fun v10_ v11_ => ref12_All.L3 k v0 v1 n3 v10_ v11_) n v12 v13 = some v4) (fun (v12, v13) => [(2, AV.ptr 0 0), (5, AV.slc 1 0 1 v13.length false), (7, Iz v10), (8, Iz v12)]) (fun (v12, v13) => [(0, .cells [Iz v0, AV.lst false false (List.map api_Edge.av v1), Lz v2]), (1, .grow (List.map (AV.int .i64) v13))]) 2 k ((0, v11)) hF (by simp [F7]) (by simp [F7]) (by simp) ?_
   rintro (_|n4) ⟨v12, v13⟩ hF K1741 hK1741
   ·try dsimp only at hF
    rw [ref12_All.L4] at hF; cases hF
   try dsimp only at hF
   rw [ref12_All.L4] at hF
   refine AW.seq fun K1743 hK1743 => ?_
   refine SQ [] [none, none, none, none, none] fun _ _ g r => ?_
   try simp [F7]
   and_intros <;> first | exact g _ (by kernel_rfl) | refine r _ _ _ ?_ | omega | (simp [maxLen, F7] <;> omega)
   refine WK [(2, AV.ptr 0 0), (5, AV.slc 1 0 1 v13.length false), (7, Iz v10), (8, Iz v12), (42, AV.bool (decide (v12 < (v1.length : Int))))] [(0, .cells [Iz v0, AV.lst false false (List.map api_Edge.av v1), Lz v2]), (1, .grow (List.map (AV.int .i64) v13))] 2 (by simp [F7]) (by simp [F7]) ?_
   by_cases h10 : v12 < (v1.length : Int)
   ·replace hF := ite_t h10 hF
    have h10_ := h10
    try simp at h10_
    have F8 := And.intro F7 (And.intro h10 h10_)
    refine CT (by simp [F8] <;> omega) ?_
    refine AW.skip ?_
    refine hK1743 _ _ _ ?_
    refine AW.midF (α := (List Int)) (fun v14 => ref12_All.J5 k v12 (fun v12_ v13_ => ref12_All.L4 k v1 v10 (fun v10_ v11_ => ref12_All.L3 k v0 v1 n3 v10_ v11_) n4 v12_ v13_) v14 = some v4) (fun v14 => [(2, AV.ptr 0 0), (5, AV.slc 1 0 1 v14.length false), (7, Iz v10), (8, Iz v12)]) (fun v14 => [(0, .cells [Iz v0, AV.lst false false (List.map api_Edge.av v1), Lz v2]), (1, .grow (List.map (AV.int .i64) v14))]) 2 (fun K1749 hK1749 => ?_) ?_
    ·refine AW.block ?_
     refine SQ [] [none, none, none, none, none, none, none] fun _ _ g r => ?_
     obtain ⟨v15, h11, h12, h13, hF⟩ := idx_elim hF
     have h13_ := get_of h13
     try simp at h13_
     have h12_ := h12
     try simp at h12_
     have F9 := And.intro F8 (And.intro h11 (And.intro h12 (And.intro h13 (And.intro h13_ h12_))))
     try simp [F9]
     and_intros <;> first | exact g _ (by kernel_rfl) | refine r _ _ _ ?_ | omega | (simp [maxLen, F9] <;> omega)
     refine WK [(2, AV.ptr 0 0), (5, AV.slc 1 0 1 v13.length false), (7, Iz v10), (8, Iz v12), (9, AV.ptr 2 0)] [(0, .cells [Iz v0, AV.lst false false (List.map api_Edge.av v1), Lz v2]), (1, .grow (List.map (AV.int .i64) v13)), (2, .cells [Iz v15.From, Iz v15.To, Iz v15.Level])] 3 (by simp [F9]) (by simp [F9]) ?_
     refine SQ [] [none, none, none, none, none, none, none, none, some (57, true), some (57, true), some (57, true), some (57, true), some (57, true), some (57, true), none] fun _ _ g r => ?_
     obtain ⟨⟨h14, h15⟩, hF⟩ := chk_elim hF
     have h15_ := ne_of_lt h15
     obtain ⟨v16, h16, h17, h18, hF⟩ := idx_elim hF
     have h18_ := get_of h18
     try simp at h18_
     have h17_ := h17
     try simp at h17_
     by_cases h19 : v16 = v10
     ·replace hF := ite_t h19 hF
      have h19q : v16 = v10 := h19
      have h19_ := eqb_t h19q
      have h19__ := neb_f h19q
      obtain ⟨⟨h20, h21⟩, hF⟩ := chk_elim hF
      have h21_ := ne_of_lt h21
      obtain ⟨v17, h22, h23, h24, hF⟩ := idx_elim hF
      have h24_ := get_of h24
      try simp at h24_
      have h23_ := h23
      try simp at h23_
      have F10 := And.intro F9 (And.intro h14 (And.intro h15 (And.intro h15_ (And.intro h16 (And.intro h17 (And.intro h18 (And.intro h18_ (And.intro h17_ (And.intro h19_ (And.intro h19__ (And.intro h20 (And.intro h21 (And.intro h21_ (And.intro h22 (And.intro h23 (And.intro h24 (And.intro h24_ h23_)))))))))))))))))
      try simp [F10]
      and_intros <;> first | exact g _ (by kernel_rfl) | refine r _ _ _ ?_ | omega | (simp [maxLen, F10] <;> omega)
      refine WK [(2, AV.ptr 0 0), (5, AV.slc 1 0 1 v13.length false), (7, Iz v10), (8, Iz v12), (9, AV.ptr 2 0), (64, AV.bool (v17 == (-1)))] [(0, .cells [Iz v0, AV.lst false false (List.map api_Edge.av v1), Lz v2]), (1, .grow (List.map (AV.int .i64) v13)), (2, .cells [Iz v15.From, Iz v15.To, Iz v15.Level])] 3 (by simp [F10]) (by simp [F10]) ?_
      by_cases h25 : v17 = (-1)
      ·replace hF := ite_t h25 hF
       have h25q : v17 = (-1) := h25
       have h25_ := eqb_t h25q
       have h25__ := neb_f h25q
       refine CT (by simp [F10, h25_, h25__, h25q] <;> omega) ?_
       refine RG [] [none, none, none, none, none, none, none] fun _ _ g r => ?_
       obtain ⟨⟨h26, h27⟩, hF⟩ := chk_elim hF
       have h27_ := ne_of_lt h27
       have F11 := And.intro F10 (And.intro h25_ (And.intro h25__ (And.intro h25q (And.intro h26 (And.intro h27 h27_)))))
       try simp [F11]
       and_intros <;> first | exact g _ (by kernel_rfl) | refine r _ _ _ ?_ | omega | (simp [maxLen, F11] <;> omega)
       refine hK1749 _ _ _ ?_
       refine RN h0 [(0, 0), (1, 1)] [(2, AV.ptr 0 0), (5, AV.slc 1 0 1 ((v13.set (v15.To).toNat (IntKind.wrap .i64 (v10 + 1))).length) false), (7, Iz v10), (8, Iz v12)] [(0, .cells [Iz v0, AV.lst false false (List.map api_Edge.av v1), Lz v2]), (1, .grow (List.map (AV.int .i64) (v13.set (v15.To).toNat (IntKind.wrap .i64 (v10 + 1)))))] 2 (by simp [F11]) (by simp [F11]) ?_
       exact JN (v13.set (v15.To).toNat (IntKind.wrap .i64 (v10 + 1))) hF (by simp [F11]) (by simp [F11])
      ·replace hF := ite_f h25 hF
       have h25_ := eqb_f h25
       have h25__ := neb_t h25
       have F12 := And.intro F10 (And.intro h25 (And.intro h25_ h25__))
       refine CF (by simp [F12] <;> omega) ?_
       refine AW.skip ?_
       refine hK1749 _ _ _ ?_
       refine RN h0 [(0, 0), (1, 1)] [(2, AV.ptr 0 0), (5, AV.slc 1 0 1 v13.length false), (7, Iz v10), (8, Iz v12)] [(0, .cells [Iz v0, AV.lst false false (List.map api_Edge.av v1), Lz v2]), (1, .grow (List.map (AV.int .i64) v13))] 2 (by simp [F12]) (by simp [F12]) ?_
       exact JN (v13) hF (by simp [F12]) (by simp [F12])
     ·replace hF := ite_f h19 hF
      have h19_ := eqb_f h19
      have h19__ := neb_t h19
      have F13 := And.intro F9 (And.intro h14 (And.intro h15 (And.intro h15_ (And.intro h16 (And.intro h17 (And.intro h18 (And.intro h18_ (And.intro h17_ (And.intro h19 (And.intro h19_ h19__))))))))))
      try simp [F13]
      and_intros <;> first | exact g _ (by kernel_rfl) | refine r _ _ _ ?_ | omega | (simp [maxLen, F13] <;> omega)
      refine WK [(2, AV.ptr 0 0), (5, AV.slc 1 0 1 v13.length false), (7, Iz v10), (8, Iz v12), (9, AV.ptr 2 0), (64, AV.bool false)] [(0, .cells [Iz v0, AV.lst false false (List.map api_Edge.av v1), Lz v2]), (1, .grow (List.map (AV.int .i64) v13)), (2, .cells [Iz v15.From, Iz v15.To, Iz v15.Level])] 3 (by simp [F13]) (by simp [F13]) ?_
      refine CF (by simp [F13]) ?_
      refine AW.skip ?_
      refine hK1749 _ _ _ ?_
      refine RN h0 [(0, 0), (1, 1)] [(2, AV.ptr 0 0), (5, AV.slc 1 0 1 v13.length false), (7, Iz v10), (8, Iz v12)] [(0, .cells [Iz v0, AV.lst false false (List.map api_Edge.av v1), Lz v2]), (1, .grow (List.map (AV.int .i64) v13))] 2 (by simp [F13]) (by simp [F13]) ?_
      exact JN (v13) hF (by simp [F13]) (by simp [F13])
    ·rintro v14 hF
     try dsimp only at hF
     unfold ref12_All.J5 at hF
     refine RG [] [none, none, none] fun _ _ g r => ?_
     try simp [F8]
     and_intros <;> first | exact g _ (by kernel_rfl) | refine r _ _ _ ?_ | omega | (simp [maxLen, F8] <;> omega)
     refine hK1741 _ _ _ ?_
     exact NX (k' := n4) ((IntKind.wrap .i64 (v12 + 1), v14)) hF (by simp [F8]) (by simp [F8])
   ·replace hF := ite_f h10 hF
    have h10_ := h10
    try simp at h10_
    have F14 := And.intro F7 (And.intro h10 h10_)
    refine CF (by simp [F14] <;> omega) ?_
    refine AW.exit ?_
    try simp
    refine hK1706 _ _ _ ?_
    refine RG [] [none, none, none] fun _ _ g r => ?_
    try simp [F14]
    and_intros <;> first | exact g _ (by kernel_rfl) | refine r _ _ _ ?_ | omega | (simp [maxLen, F14] <;> omega)
    refine hK1656 _ _ _ ?_
    exact NX (k' := n3) ((IntKind.wrap .i64 (v10 + 1), v13)) hF (by simp [F14]) (by simp [F14])
  ·replace hF := ite_f h9 hF
   have h9_ := h9
   try simp at h9_
   have F15 := And.intro h1 (And.intro h1_ (And.intro h9 h9_))
   refine CF (by simp [F15] <;> omega) ?_
   refine AW.exit ?_
   try simp
   refine hK1363 _ _ _ ?_
   refine SQ [] [none, none] fun _ _ g r => ?_
   try simp [F15]
   and_intros <;> first | exact g _ (by kernel_rfl) | refine r _ _ _ ?_ | omega | (simp [maxLen, F15] <;> omega)
   refine RM h0 [(0, 1)] [(4, AV.slc 0 0 1 v11.length false)] [(0, .grow (List.map (AV.int .i64) v11))] 1 (by simp [F15]) (by simp [F15]) ?_
   simp only [Option.some.injEq] at hF
   subst hF
   refine AW.ret (hQ _ _ _ ?_ (matchO_0 ?_)).1
   ·simp [Try.f53, F15]
   ·simp [F15]
theorem w_ref13_Of (k : Nat) (v0 : (List Int)) (v1 : (List Int)) (v2 : Int) (v3 : Int) (v4 : Int) (hF : ref13_Of k v0 v1 v2 v3 = some v4) :
  FCall Try.prog 14 [AV.agg [AV.lst false false (List.map (AV.int .i64) v0), AV.lst false false (List.map (AV.int .i64) v1), AV.int .i64 v2], AV.int .i64 v3] [] (AV.int .i64 v4) [] := by
 unfold ref13_Of at hF
 refine EN Try.func14 ?_
 intro c0 w0 Q h0 hQ
 refine WK [(0, AV.agg [Lz v0, Lz v1, Iz v2]), (1, Iz v3)] [] 0 (by simp) (by simp) ?_
 refine SQ [] [none, none] fun _ _ g r => ?_
 try simp
 and_intros <;> first | exact g _ (by kernel_rfl) | refine r _ _ _ ?_ | omega | (simp [maxLen] <;> omega)
 refine WK [(1, Iz v3), (2, AV.ptr 0 0)] [(0, .cells [Lz v0, Lz v1, Iz v2])] 1 (by simp) (by simp) ?_
 refine AW.seq fun K16 hK16 => ?_
 refine SQ [] [none, none] fun _ _ g r => ?_
 try simp
 and_intros <;> first | exact g _ (by kernel_rfl) | refine r _ _ _ ?_ | omega | (simp [maxLen] <;> omega)
 refine WK [(1, Iz v3), (2, AV.ptr 0 0), (6, AV.bool (decide (v3 < 0)))] [(0, .cells [Lz v0, Lz v1, Iz v2])] 1 (by simp) (by simp) ?_
 by_cases h1 : v3 < 0
 ·replace hF := ite_t h1 hF
  have h1_ := h1
  try simp at h1_
  refine CT (by simp [h1, h1_] <;> omega) ?_
  refine SQ [] [none] fun _ _ g r => ?_
  try simp [h1, h1_]
  and_intros <;> first | exact g _ (by kernel_rfl) | refine r _ _ _ ?_ | omega | (simp [h1, h1_, maxLen] <;> omega)
  refine WK [(4, Iz 0)] [] 1 (by simp [h1, h1_]) (by simp [h1, h1_]) ?_
  simp only [Option.some.injEq] at hF
  subst hF
  refine AW.ret (hQ _ _ _ ?_ (matchO_0 ?_)).1
  ·simp [Try.f14, h1, h1_]
  ·simp [h1, h1_]
 ·replace hF := ite_f h1 hF
  have h1_ := h1
  try simp at h1_
  refine CF (by simp [h1, h1_] <;> omega) ?_
  refine AW.skip ?_
  refine hK16 _ _ _ ?_
  refine AW.seq fun K21 hK21 => ?_
  refine SQ [] [none, none, none, none, none] fun _ _ g r => ?_
  try simp [h1, h1_]
  and_intros <;> first | exact g _ (by kernel_rfl) | refine r _ _ _ ?_ | omega | (simp [h1, h1_, maxLen] <;> omega)
  refine WK [(1, Iz v3), (2, AV.ptr 0 0), (11, AV.bool (decide (v3 < (v1.length : Int))))] [(0, .cells [Lz v0, Lz v1, Iz v2])] 1 (by simp [h1, h1_]) (by simp [h1, h1_]) ?_
  by_cases h2 : v3 < (v1.length : Int)
  ·replace hF := ite_t h2 hF
   have h2_ := h2
   try simp at h2_
   have F1 := And.intro h1 (And.intro h1_ (And.intro h2 h2_))
   refine CT (by simp [F1] <;> omega) ?_
   refine SQ [] [none, none, none, none, none, none] fun _ _ g r => ?_
   obtain ⟨v5, h3, h4, h5, hF⟩ := idx_elim hF
   have h5_ := get_of h5
   try simp at h5_
   have h4_ := h4
   try simp at h4_
   have F2 := And.intro F1 (And.intro h3 (And.intro h4 (And.intro h5 (And.intro h5_ h4_))))
   try simp [F2]
   and_intros <;> first | exact g _ (by kernel_rfl) | refine r _ _ _ ?_ | omega | (simp [maxLen, F2] <;> omega)
   refine WK [(4, Iz v5)] [] 1 (by simp [F2]) (by simp [F2]) ?_
   simp only [Option.some.injEq] at hF
   subst hF
   refine AW.ret (hQ _ _ _ ?_ (matchO_0 ?_)).1
   ·simp [Try.f14, F2]
   ·simp [F2]
  ·replace hF := ite_f h2 hF
   have h2_ := h2
   try simp at h2_
   have F3 := And.intro h1 (And.intro h1_ (And.intro h2 h2_))
   refine CF (by simp [F3] <;> omega) ?_
   refine AW.skip ?_
   refine hK21 _ _ _ ?_
   refine SQ [] [none] fun _ _ g r => ?_
   try simp [F3]
   and_intros <;> first | exact g _ (by kernel_rfl) | refine r _ _ _ ?_ | omega | (simp [maxLen, F3] <;> omega)
   refine WK [(4, Iz 1)] [] 1 (by simp [F3]) (by simp [F3]) ?_
   simp only [Option.some.injEq] at hF
   subst hF
   refine AW.ret (hQ _ _ _ ?_ (matchO_0 ?_)).1
   ·simp [Try.f14, F3]
   ·simp [F3]
theorem w_ref13_All (k : Nat) (v0 : Int) (v1 : (List api_Edge)) (v2 : (List Int)) (v3 : (List Int)) (v4 : (List Int)) (v5 : Int) (v6 : (List Int)) (hF : ref13_All k v0 v1 v2 v3 v4 v5 = some v6) :
  FCall Try.prog 34 [AV.agg [AV.int .i64 v0, AV.lst false false (List.map api_Edge.av v1), AV.lst false false (List.map (AV.int .i64) v2)], AV.agg [AV.lst false false (List.map (AV.int .i64) v3), AV.lst false false (List.map (AV.int .i64) v4), AV.int .i64 v5]] [] (AV.slc 0 0 1 v6.length false) [some (.grow (List.map (AV.int .i64) v6))] := by
 unfold ref13_All at hF
 refine EN Try.func34 ?_
 intro c0 w0 Q h0 hQ
 refine WK [(0, AV.agg [Iz v0, AV.lst false false (List.map api_Edge.av v1), Lz v2]), (1, AV.agg [Lz v3, Lz v4, Iz v5])] [] 0 (by simp) (by simp) ?_
 refine SQ [] [none, none, none] fun _ _ g r => ?_
 try simp
 and_intros <;> first | exact g _ (by kernel_rfl) | refine r _ _ _ ?_ | omega | (simp [maxLen] <;> omega)
 refine WK [(2, AV.ptr 0 0), (3, AV.ptr 1 0)] [(0, .cells [Iz v0, AV.lst false false (List.map api_Edge.av v1), Lz v2]), (1, .cells [Lz v3, Lz v4, Iz v5])] 2 (by simp) (by simp) ?_
 refine SQ [] [none, none, none, none, none, none, none, none] fun _ _ g r => ?_
 try simp
 and_intros
 try any_goals first | omega | (simp [maxLen] <;> omega)
 obtain ⟨v7, v8, v9, h1, hF⟩ := bnd3_elim hF
 refine AC (w_ref11_Level k _ _ _ _ _ _ _ h1) (.cons (.same (by simp)) (.cons (.same (by simp)) .nil)) ?_
 try simp
 and_intros
 try any_goals first | omega | (simp [maxLen] <;> omega)
 obtain ⟨v10, h2, hF⟩ := bnd1_elim hF
 refine aCall_l (w_ref12_All k _ _ _ _ _ h2) (by simp) [] [2] [] rfl (.cons (.agg (.cons (.same (by simp)) (.cons (Coe.l (o := .grow (flatA (List.map api_Edge.av v8))) (by simp) rfl (by simp) (by simp [noIdsL]) (by simp) (by simp)) (.cons (.same (by simp)) .nil)))) (.cons (.same (by simp)) .nil)) (by simp) (by decide) (by simp) (by simp) (.inr ⟨by simp, by simp⟩) (by simp) (by simp) ?_
 try simp
 and_intros <;> first | exact g _ (by kernel_rfl) | refine r _ _ _ ?_ | omega | (simp [maxLen] <;> omega)
 refine WK [(3, AV.ptr 1 0), (5, AV.slc 3 0 1 v10.length false)] [(1, .cells [Lz v3, Lz v4, Iz v5]), (3, .grow (List.map (AV.int .i64) v10))] 4 (by simp) (by simp) ?_
 refine AW.frz 3 (o := .grow (List.map (AV.int .i64) v10)) (by simp) rfl [(5, Lz v10)] [] ⟨(.l (by simp) (by simp) (by simp) (by simp)), trivial⟩ trivial ?_
 refine WK [(3, AV.ptr 1 0), (5, Lz v10)] [(1, .cells [Lz v3, Lz v4, Iz v5])] 4 (by simp) (by simp) ?_
 refine SQ [] [none] fun _ _ g r => ?_
 try simp
 and_intros <;> first | exact g _ (by kernel_rfl) | refine r _ _ _ ?_ | omega | (simp [maxLen] <;> omega)
 refine WK [(3, AV.ptr 1 0), (5, Lz v10), (6, AV.lst true true (List.map (AV.int .i64) ([] : List Int)))] [(1, .cells [Lz v3, Lz v4, Iz v5])] 4 (by simp) (by simp) ?_
 refine AW.seq fun K99 hK99 => ?_
 refine SQ [] [none] fun _ _ g r => ?_
 try simp
 and_intros <;> first | exact g _ (by kernel_rfl) | refine r _ _ _ ?_ | omega | (simp [maxLen] <;> omega)
 refine WK [(3, AV.ptr 1 0), (5, Lz v10), (6, AV.lst true true (List.map (AV.int .i64) ([] : List Int))), (7, Iz 0)] [(1, .cells [Lz v3, Lz v4, Iz v5])] 4 (by simp) (by simp) ?_
 refine AW.block ?_
 refine AW.own' 6 1 true (by simp) (by decide) ?_
 refine RM h0 [(0, 1), (1, 4)] [(3, AV.ptr 0 0), (5, Lz v10), (6, AV.slc 1 0 1 (([] : List Int).length) false), (7, Iz 0)] [(0, .cells [Lz v3, Lz v4, Iz v5]), (1, .grow (List.map (AV.int .i64) ([] : List Int)))] 2 (by simp) (by simp) ?_
 refine AW.loopF (α := (Int × (List Int))) (fun n (v11, v12) => ref13_All.L1 k v3 v4 v5 v10 n v11 v12 = some v6) (fun (v11, v12) => [(3, AV.ptr 0 0), (5, Lz v10), (6, AV.slc 1 0 1 v12.length false), (7, Iz v11)]) (fun (v11, v12) => [(0, .cells [Lz v3, Lz v4, Iz v5]), (1, .grow (List.map (AV.int .i64) v12))]) 2 k ((0, ([] : List Int))) hF (by simp) (by simp) (by simp) ?_
 rintro (_|n1) ⟨v11, v12⟩ hF K122 hK122
 ·try dsimp only at hF
  rw [ref13_All.L1] at hF; cases hF
 try dsimp only at hF
 rw [ref13_All.L1] at hF
 refine AW.seq fun K124 hK124 => ?_
 refine SQ [] [none, none, none, none] fun _ _ g r => ?_
 try simp
 and_intros <;> first | exact g _ (by kernel_rfl) | refine r _ _ _ ?_ | omega | (simp [maxLen] <;> omega)
 refine WK [(3, AV.ptr 0 0), (5, Lz v10), (6, AV.slc 1 0 1 v12.length false), (7, Iz v11), (18, AV.bool (decide (v11 < (v10.length : Int))))] [(0, .cells [Lz v3, Lz v4, Iz v5]), (1, .grow (List.map (AV.int .i64) v12))] 2 (by simp) (by simp) ?_
 by_cases h3 : v11 < (v10.length : Int)
 ·replace hF := ite_t h3 hF
  have h3_ := h3
  try simp at h3_
  refine CT (by simp [h3, h3_] <;> omega) ?_
  refine AW.skip ?_
  refine hK124 _ _ _ ?_
  refine AW.seq fun K127 hK127 => ?_
  refine AW.block ?_
  refine RG [] [none, none, none, none, none, none, none, none, none, none] fun _ _ g r => ?_
  obtain ⟨v13, h4, h5, h6, hF⟩ := idx_elim hF
  have h6_ := get_of h6
  try simp at h6_
  have h5_ := h5
  try simp at h5_
  have F1 := And.intro h3 (And.intro h3_ (And.intro h4 (And.intro h5 (And.intro h6 (And.intro h6_ h5_)))))
  try simp [F1]
  and_intros
  try any_goals first | omega | (simp [maxLen, F1] <;> omega)
  obtain ⟨v14, h7, hF⟩ := bnd1_elim hF
  refine AC (w_ref13_Of k _ _ _ _ _ h7) (.cons (.same (by simp [F1])) (.cons (.same (by simp [F1])) .nil)) ?_
  obtain ⟨h8, hF⟩ := chk_elim hF
  have h8_ := h8
  try simp at h8_
  have F2 := And.intro F1 h8
  try simp [F2]
  and_intros <;> first | exact g _ (by kernel_rfl) | refine r _ _ _ ?_ | omega | (simp [maxLen, F2] <;> omega)
  refine hK127 _ _ _ ?_
  refine WK [(3, AV.ptr 0 0), (5, Lz v10), (6, AV.slc 2 0 1 ((v12 ++ ([v14] : List Int)).length) false), (7, Iz v11)] [(0, .cells [Lz v3, Lz v4, Iz v5]), (2, .grow (List.map (AV.int .i64) (v12 ++ ([v14] : List Int))))] 3 (by simp [F2] <;> omega) (by simp [F2]) ?_
  refine RG [] [none, none, none] fun _ _ g r => ?_
  try simp [F2]
  and_intros <;> first | exact g _ (by kernel_rfl) | refine r _ _ _ ?_ | omega | (simp [maxLen, F2] <;> omega)
  refine hK122 _ _ _ ?_
  refine RN h0 [(0, 0), (1, 2)] [(3, AV.ptr 0 0), (5, Lz v10), (6, AV.slc 1 0 1 ((v12 ++ ([v14] : List Int)).length) false), (7, Iz (IntKind.wrap .i64 (v11 + 1)))] [(0, .cells [Lz v3, Lz v4, Iz v5]), (1, .grow (List.map (AV.int .i64) (v12 ++ ([v14] : List Int))))] 2 (by simp [F2] <;> omega) (by simp [F2]) ?_
  exact NX (k' := n1) ((IntKind.wrap .i64 (v11 + 1), v12 ++ ([v14] : List Int))) hF (by simp [F2]) (by simp [F2])
 ·replace hF := ite_f h3 hF
  have h3_ := h3
  try simp at h3_
  refine CF (by simp [h3, h3_] <;> omega) ?_
  refine AW.exit ?_
  try simp
  refine hK99 _ _ _ ?_
  refine SQ [] [none, none] fun _ _ g r => ?_
  try simp [h3, h3_]
  and_intros <;> first | exact g _ (by kernel_rfl) | refine r _ _ _ ?_ | omega | (simp [h3, h3_, maxLen] <;> omega)
  refine RM h0 [(0, 1)] [(4, AV.slc 0 0 1 v12.length false)] [(0, .grow (List.map (AV.int .i64) v12))] 1 (by simp [h3, h3_]) (by simp [h3, h3_]) ?_
  simp only [Option.some.injEq] at hF
  subst hF
  refine AW.ret (hQ _ _ _ ?_ (matchO_0 ?_)).1
  ·simp [Try.f34, h3, h3_]
  ·simp [h3, h3_]
theorem w_ref14_Entry (k : Nat) (v0 : Int) (v1 : Int) (hF : ref14_Entry k v0 = some v1) :
  FCall Try.prog 30 [AV.int .i64 v0] [] (AV.int .i64 v1) [] := by
 unfold ref14_Entry at hF
 refine EN Try.func30 ?_
 intro c0 w0 Q h0 hQ
 refine WK [(0, Iz v0)] [] 0 (by simp) (by simp) ?_
 refine SQ [] [none] fun _ _ g r => ?_
 try simp
 and_intros <;> first | exact g _ (by kernel_rfl) | refine r _ _ _ ?_ | omega | (simp [maxLen] <;> omega)
 refine WK [(0, Iz v0)] [] 0 (by simp) (by simp) ?_
 refine SQ [] [none, none, none, none] fun _ _ g r => ?_
 try simp
 and_intros <;> first | exact g _ (by kernel_rfl) | refine r _ _ _ ?_ | omega | (simp [maxLen] <;> omega)
 refine WK [(2, Iz (IntKind.wrap .i64 (2 + IntKind.wrap .i64 (2 * v0))))] [] 0 (by simp) (by simp) ?_
 simp only [Option.some.injEq] at hF
 subst hF
 refine AW.ret (hQ _ _ _ ?_ (matchO_0 ?_)).1
 ·simp [Try.f30]
 ·simp
theorem w_ref14_Exit (k : Nat) (v0 : Int) (v1 : Int) (hF : ref14_Exit k v0 = some v1) :
  FCall Try.prog 32 [AV.int .i64 v0] [] (AV.int .i64 v1) [] := by
 unfold ref14_Exit at hF
 refine EN Try.func32 ?_
 intro c0 w0 Q h0 hQ
 refine WK [(0, Iz v0)] [] 0 (by simp) (by simp) ?_
 refine SQ [] [none] fun _ _ g r => ?_
 try simp
 and_intros <;> first | exact g _ (by kernel_rfl) | refine r _ _ _ ?_ | omega | (simp [maxLen] <;> omega)
 refine WK [(0, Iz v0)] [] 0 (by simp) (by simp) ?_
 refine SQ [] [none, none, none, none] fun _ _ g r => ?_
 try simp
 and_intros <;> first | exact g _ (by kernel_rfl) | refine r _ _ _ ?_ | omega | (simp [maxLen] <;> omega)
 refine WK [(2, Iz (IntKind.wrap .i64 (3 + IntKind.wrap .i64 (2 * v0))))] [] 0 (by simp) (by simp) ?_
 simp only [Option.some.injEq] at hF
 subst hF
 refine AW.ret (hQ _ _ _ ?_ (matchO_0 ?_)).1
 ·simp [Try.f32]
 ·simp
theorem w_ref14_Network (k : Nat) (v0 : Int) (v1 : (List api_Edge)) (v2 : (List Int)) (v3 : (List Int)) (v4 : (List Int)) (v5 : Int) (v6 : (List Int)) (v7 : Int) (v8 : (List api_Arc)) (v9 : Int) (hF : ref14_Network k v0 v1 v2 v3 v4 v5 v6 = some (v7, v8, v9)) :
  FCall Try.prog 49 [AV.agg [AV.int .i64 v0, AV.lst false false (List.map api_Edge.av v1), AV.lst false false (List.map (AV.int .i64) v2)], AV.agg [AV.lst false false (List.map (AV.int .i64) v3), AV.lst false false (List.map (AV.int .i64) v4), AV.int .i64 v5], AV.lst false false (List.map (AV.int .i64) v6)] [] (AV.tup [AV.agg [AV.int .i64 v7, AV.slc 0 0 3 v8.length false], AV.int .i64 v9]) [some (.grow (flatA (List.map api_Arc.av v8)))] := by
 unfold ref14_Network at hF
 refine EN Try.func49 ?_
 intro c0 w0 Q h0 hQ
 refine WK [(0, AV.agg [Iz v0, AV.lst false false (List.map api_Edge.av v1), Lz v2]), (1, AV.agg [Lz v3, Lz v4, Iz v5]), (2, Lz v6)] [] 0 (by simp) (by simp) ?_
 refine SQ [] [none, none, none, none] fun _ _ g r => ?_
 try simp
 and_intros <;> first | exact g _ (by kernel_rfl) | refine r _ _ _ ?_ | omega | (simp [maxLen] <;> omega)
 refine WK [(2, Lz v6), (3, AV.ptr 0 0), (4, AV.ptr 1 0), (6, AV.ptr 2 0)] [(0, .cells [Iz v0, AV.lst false false (List.map api_Edge.av v1), Lz v2]), (1, .cells [Lz v3, Lz v4, Iz v5]), (2, .cells [Iz 0, AV.lst true true (List.map api_Arc.av ([] : List api_Arc))])] 3 (by simp) (by simp) ?_
 refine AW.seq fun K362 hK362 => ?_
 refine SQ [] [none, none, none, none] fun _ _ g r => ?_
 try simp
 and_intros
 try any_goals first | omega | (simp [maxLen] <;> omega)
 obtain ⟨v10, h1, hF⟩ := bnd1_elim hF
 refine AC (w_ref13_Check k _ _ _ _ _ _ _ h1) (.cons (.same (by simp)) (.cons (.same (by simp)) .nil)) ?_
 try simp
 and_intros <;> first | exact g _ (by kernel_rfl) | refine r _ _ _ ?_ | omega | (simp [maxLen] <;> omega)
 refine WK [(2, Lz v6), (3, AV.ptr 0 0), (4, AV.ptr 1 0), (6, AV.ptr 2 0), (8, Iz v10)] [(0, .cells [Iz v0, AV.lst false false (List.map api_Edge.av v1), Lz v2]), (1, .cells [Lz v3, Lz v4, Iz v5]), (2, .cells [Iz 0, AV.lst true true (List.map api_Arc.av ([] : List api_Arc))])] 3 (by simp) (by simp) ?_
 refine SQ [] [none, none] fun _ _ g r => ?_
 try simp
 and_intros <;> first | exact g _ (by kernel_rfl) | refine r _ _ _ ?_ | omega | (simp [maxLen] <;> omega)
 refine WK [(2, Lz v6), (3, AV.ptr 0 0), (4, AV.ptr 1 0), (6, AV.ptr 2 0), (8, Iz v10), (22, AV.bool (v10 != 0))] [(0, .cells [Iz v0, AV.lst false false (List.map api_Edge.av v1), Lz v2]), (1, .cells [Lz v3, Lz v4, Iz v5]), (2, .cells [Iz 0, AV.lst true true (List.map api_Arc.av ([] : List api_Arc))])] 3 (by simp) (by simp) ?_
 by_cases h2 : v10 ≠ 0
 ·replace hF := ite_t h2 hF
  have h2_ := eqb_f h2
  have h2__ := neb_t h2
  have F1 := And.intro h2 (And.intro h2_ h2__)
  refine CT (by simp [F1] <;> omega) ?_
  refine SQ [] [none, none, none, none] fun _ _ g r => ?_
  try simp [F1]
  and_intros <;> first | exact g _ (by kernel_rfl) | refine r _ _ _ ?_ | omega | (simp [maxLen, F1] <;> omega)
  refine WK [(6, AV.ptr 2 0), (7, Iz v10)] [(2, .cells [Iz 0, AV.lst true true (List.map api_Arc.av ([] : List api_Arc))])] 3 (by simp [F1]) (by simp [F1]) ?_
  refine AW.ownC 2 1 3 true (cs := [Iz 0, AV.lst true true (List.map api_Arc.av ([] : List api_Arc))]) (by simp [F1]) (by simp) ?_
  refine RM h0 [(0, 3), (1, 2)] [(6, AV.ptr 1 0), (7, Iz v10)] [(0, .grow (flatA (List.map api_Arc.av ([] : List api_Arc)))), (1, .cells [Iz 0, AV.slc 0 0 3 (([] : List api_Arc).length) false])] 2 (by simp [F1]) (by simp [F1]) ?_
  simp only [Option.some.injEq, Prod.mk.injEq] at hF
  obtain ⟨e0, e1, e2⟩ := hF
  subst e0 e1 e2
  refine AW.ret (hQ _ _ _ ?_ (matchO_0 ?_)).1
  ·simp [Try.f49, F1]
  ·simp [F1]
 ·replace hF := ite_f h2 hF
  have h2q : v10 = 0 := Classical.not_not.1 h2
  have h2_ := eqb_t h2q
  have h2__ := neb_f h2q
  have F2 := And.intro h2_ (And.intro h2__ h2q)
  refine CF (by simp [F2] <;> omega) ?_
  refine AW.skip ?_
  refine hK362 _ _ _ ?_
  refine AW.seq fun K368 hK368 => ?_
  refine SQ [] [none, none, none, none, none] fun _ _ g r => ?_
  try simp [F2]
  and_intros
  try any_goals first | omega | (simp [maxLen, F2] <;> omega)
  obtain ⟨v11, h3, hF⟩ := bnd1_elim hF
  refine AC (w_ref11_Set k _ _ _ h3) (.cons (.same (by simp [F2])) (.cons (.same (by simp [F2])) .nil)) ?_
  try simp [F2]
  and_intros <;> first | exact g _ (by kernel_rfl) | refine r _ _ _ ?_ | omega | (simp [maxLen, F2] <;> omega)
  refine WK [(2, Lz v6), (3, AV.ptr 0 0), (4, AV.ptr 1 0), (6, AV.ptr 2 0), (29, AV.bool (!v11))] [(0, .cells [Iz v0, AV.lst false false (List.map api_Edge.av v1), Lz v2]), (1, .cells [Lz v3, Lz v4, Iz v5]), (2, .cells [Iz 0, AV.lst true true (List.map api_Arc.av ([] : List api_Arc))])] 3 (by simp [F2]) (by simp [F2]) ?_
  by_cases h4 : (!v11) = true
  ·replace hF := ite_t h4 hF
   have h4_ := h4
   try simp at h4_
   have F3 := And.intro F2 (And.intro h4 h4_)
   refine CT (by simp [F3] <;> omega) ?_
   refine SQ [] [none, none, none] fun _ _ g r => ?_
   try simp [F3]
   and_intros <;> first | exact g _ (by kernel_rfl) | refine r _ _ _ ?_ | omega | (simp [maxLen, F3] <;> omega)
   refine WK [(6, AV.ptr 2 0), (7, Iz 4)] [(2, .cells [Iz 0, AV.lst true true (List.map api_Arc.av ([] : List api_Arc))])] 3 (by simp [F3]) (by simp [F3]) ?_
   refine AW.ownC 2 1 3 true (cs := [Iz 0, AV.lst true true (List.map api_Arc.av ([] : List api_Arc))]) (by simp [F3]) (by simp) ?_
   refine RM h0 [(0, 3), (1, 2)] [(6, AV.ptr 1 0), (7, Iz 4)] [(0, .grow (flatA (List.map api_Arc.av ([] : List api_Arc)))), (1, .cells [Iz 0, AV.slc 0 0 3 (([] : List api_Arc).length) false])] 2 (by simp [F3]) (by simp [F3]) ?_
   simp only [Option.some.injEq, Prod.mk.injEq] at hF
   obtain ⟨e0, e1, e2⟩ := hF
   subst e0 e1 e2
   refine AW.ret (hQ _ _ _ ?_ (matchO_0 ?_)).1
   ·simp [Try.f49, F3]
   ·simp [F3]
  ·replace hF := ite_f h4 hF
   have h4_ := h4
   try simp at h4_
   have F4 := And.intro F2 (And.intro h4 h4_)
   refine CF (by simp [F4] <;> omega) ?_
   refine AW.skip ?_
   refine hK368 _ _ _ ?_
   refine SQ [] [none, none, none, none, none] fun _ _ g r => ?_
   try simp [F4]
   and_intros
   try any_goals first | omega | (simp [maxLen, F4] <;> omega)
   obtain ⟨v12, v13, v14, h5, hF⟩ := bnd3_elim hF
   refine AC (w_ref11_Level k _ _ _ _ _ _ _ h5) (.cons (.same (by simp [F4])) (.cons (.same (by simp [F4])) .nil)) ?_
   try simp [F4]
   and_intros <;> first | exact g _ (by kernel_rfl) | refine r _ _ _ ?_ | omega | (simp [maxLen, F4] <;> omega)
   refine WK [(2, Lz v6), (3, AV.ptr 0 0), (4, AV.ptr 1 0), (6, AV.ptr 2 0)] [(0, .cells [Iz v12, AV.slc 3 0 3 v13.length false, Lz v14]), (1, .cells [Lz v3, Lz v4, Iz v5]), (2, .cells [Iz 0, AV.lst true true (List.map api_Arc.av ([] : List api_Arc))]), (3, .grow (flatA (List.map api_Edge.av v13)))] 4 (by simp [F4]) (by simp [F4]) ?_
   refine AW.frz 3 (o := .grow (flatA (List.map api_Edge.av v13))) (by simp [F4]) rfl [] [(0, .cells [Iz v12, AV.lst false false (List.map api_Edge.av v13), Lz v14])] trivial ⟨⟨by simp, AObj.cells [Iz v12, AV.slc 3 0 3 v13.length false, Lz v14], by simp [F4], (.mk (.cons (.same _) (.cons (.l (by simp) (by simp) (by simp) (by simp)) (.cons (.same _) .nil))))⟩, trivial⟩ ?_
   refine WK [(2, Lz v6), (3, AV.ptr 0 0), (4, AV.ptr 1 0), (6, AV.ptr 2 0)] [(0, .cells [Iz v12, AV.lst false false (List.map api_Edge.av v13), Lz v14]), (1, .cells [Lz v3, Lz v4, Iz v5]), (2, .cells [Iz 0, AV.lst true true (List.map api_Arc.av ([] : List api_Arc))])] 4 (by simp [F4]) (by simp [F4]) ?_
   refine SQ [] [none, none, none, none, none, none, none, none, none] fun _ _ g r => ?_
   try simp [F4]
   and_intros
   try any_goals first | omega | (simp [maxLen, F4] <;> omega)
   obtain ⟨v15, h6, hF⟩ := bnd1_elim hF
   refine AC (w_ref12_All k _ _ _ _ _ h6) (.cons (.same (by simp [F4])) (.cons (.same (by simp [F4])) .nil)) ?_
   try simp [F4]
   and_intros
   try any_goals first | omega | (simp [maxLen, F4] <;> omega)
   obtain ⟨v16, h7, hF⟩ := bnd1_elim hF
   refine AC (w_ref13_All k _ _ _ _ _ _ _ h7) (.cons (.same (by simp [F4])) (.cons (.same (by simp [F4])) .nil)) ?_
   try simp [F4]
   and_intros <;> first | exact g _ (by kernel_rfl) | refine r _ _ _ ?_ | omega | (simp [maxLen, F4] <;> omega)
   refine WK [(2, Lz v6), (3, AV.ptr 0 0), (4, AV.ptr 1 0), (6, AV.ptr 2 0), (9, AV.slc 4 0 1 v15.length false), (10, AV.slc 5 0 1 v16.length false)] [(0, .cells [Iz v12, AV.lst false false (List.map api_Edge.av v13), Lz v14]), (1, .cells [Lz v3, Lz v4, Iz v5]), (2, .cells [Iz 0, AV.lst true true (List.map api_Arc.av ([] : List api_Arc))]), (4, .grow (List.map (AV.int .i64) v15)), (5, .grow (List.map (AV.int .i64) v16))] 6 (by simp [F4]) (by simp [F4]) ?_
   refine AW.frz 4 (o := .grow (List.map (AV.int .i64) v15)) (by simp [F4]) rfl [(9, Lz v15)] [] ⟨(.l (by simp) (by simp) (by simp) (by simp)), trivial⟩ trivial ?_
   refine AW.frz 5 (o := .grow (List.map (AV.int .i64) v16)) (by simp [F4]) rfl [(10, Lz v16)] [] ⟨(.l (by simp) (by simp) (by simp) (by simp)), trivial⟩ trivial ?_
   refine WK [(2, Lz v6), (3, AV.ptr 0 0), (4, AV.ptr 1 0), (6, AV.ptr 2 0), (9, Lz v15), (10, Lz v16)] [(0, .cells [Iz v12, AV.lst false false (List.map api_Edge.av v13), Lz v14]), (1, .cells [Lz v3, Lz v4, Iz v5]), (2, .cells [Iz 0, AV.lst true true (List.map api_Arc.av ([] : List api_Arc))])] 6 (by simp [F4]) (by simp [F4]) ?_
   refine SQ [] [none, none, none, none, none, none, none] fun _ _ g r => ?_
   try simp [F4]
   and_intros <;> first | exact g _ (by kernel_rfl) | refine r _ _ _ ?_ | omega | (simp [maxLen, F4] <;> omega)
   refine WK [(2, Lz v6), (3, AV.ptr 0 0), (4, AV.ptr 1 0), (6, AV.ptr 2 0), (9, Lz v15), (10, Lz v16), (11, AV.ptr 6 0)] [(0, .cells [Iz v12, AV.lst false false (List.map api_Edge.av v13), Lz v14]), (1, .cells [Lz v3, Lz v4, Iz v5]), (2, .cells [Iz 0, AV.lst true true (List.map api_Arc.av ([] : List api_Arc))]), (6, .cells [Iz (IntKind.wrap .i64 (2 + IntKind.wrap .i64 (2 * v12))), AV.lst true true (List.map api_Arc.av ([] : List api_Arc))])] 7 (by simp [F4]) (by simp [F4]) ?_
   refine AW.seq fun K420 hK420 => ?_
   refine SQ [] [none] fun _ _ g r => ?_
   try simp [F4]
   and_intros <;> first | exact g _ (by kernel_rfl) | refine r _ _ _ ?_ | omega | (simp [maxLen, F4] <;> omega)
   refine WK [(2, Lz v6), (3, AV.ptr 0 0), (4, AV.ptr 1 0), (6, AV.ptr 2 0), (9, Lz v15), (10, Lz v16), (11, AV.ptr 6 0), (12, Iz 0)] [(0, .cells [Iz v12, AV.lst false false (List.map api_Edge.av v13), Lz v14]), (1, .cells [Lz v3, Lz v4, Iz v5]), (2, .cells [Iz 0, AV.lst true true (List.map api_Arc.av ([] : List api_Arc))]), (6, .cells [Iz (IntKind.wrap .i64 (2 + IntKind.wrap .i64 (2 * v12))), AV.lst true true (List.map api_Arc.av ([] : List api_Arc))])] 7 (by simp [F4]) (by simp [F4]) ?_
   refine AW.block ?_
   refine AW.ownC 2 1 3 true (cs := [Iz 0, AV.lst true true (List.map api_Arc.av ([] : List api_Arc))]) (by simp [F4]) (by simp) ?_
   refine AW.ownC 6 1 3 true (cs := [Iz (IntKind.wrap .i64 (2 + IntKind.wrap .i64 (2 * v12))), AV.lst true true (List.map api_Arc.av ([] : List api_Arc))]) (by simp [F4]) (by simp) ?_
   refine RM h0 [(0, 0), (1, 1), (2, 2), (3, 7), (4, 6), (5, 8)] [(2, Lz v6), (3, AV.ptr 0 0), (4, AV.ptr 1 0), (6, AV.ptr 2 0), (9, Lz v15), (10, Lz v16), (11, AV.ptr 4 0), (12, Iz 0)] [(0, .cells [Iz v12, AV.lst false false (List.map api_Edge.av v13), Lz v14]), (1, .cells [Lz v3, Lz v4, Iz v5]), (2, .cells [Iz 0, AV.slc 3 0 3 (([] : List api_Arc).length) false]), (3, .grow (flatA (List.map api_Arc.av ([] : List api_Arc)))), (4, .cells [Iz (IntKind.wrap .i64 (2 + IntKind.wrap .i64 (2 * v12))), AV.slc 5 0 3 (([] : List api_Arc).length) false]), (5, .grow (flatA (List.map api_Arc.av ([] : List api_Arc))))] 6 (by simp [F4]) (by simp [F4]) ?_
   refine AW.loopF (α := (Int × (List api_Arc))) (fun n (v17, v18) => ref14_Network.L1 k v3 v6 v12 v13 v15 v16 n v17 v18 = some (v7, v8, v9)) (fun (v17, v18) => [(2, Lz v6), (3, AV.ptr 0 0), (4, AV.ptr 1 0), (6, AV.ptr 2 0), (9, Lz v15), (10, Lz v16), (11, AV.ptr 4 0), (12, Iz v17)]) (fun (v17, v18) => [(0, .cells [Iz v12, AV.lst false false (List.map api_Edge.av v13), Lz v14]), (1, .cells [Lz v3, Lz v4, Iz v5]), (2, .cells [Iz 0, AV.slc 3 0 3 (([] : List api_Arc).length) false]), (3, .grow (flatA (List.map api_Arc.av ([] : List api_Arc)))), (4, .cells [Iz (IntKind.wrap .i64 (2 + IntKind.wrap .i64 (2 * v12))), AV.slc 5 0 3 v18.length false]), (5, .grow (flatA (List.map api_Arc.av v18)))]) 6 k ((0, ([] : List api_Arc))) hF (by simp [F4]) (by simp [F4]) (by simp) ?_
   rintro (_|n1) ⟨v17, v18⟩ hF K455 hK455
   ·try dsimp only at hF
    rw [ref14_Network.L1] at hF; cases hF
   try dsimp only at hF
   rw [ref14_Network.L1] at hF
   refine AW.seq fun K457 hK457 => ?_
   refine SQ [] [none, none, none, none, none] fun _ _ g r => ?_
   try simp [F4]
   and_intros <;> first | exact g _ (by kernel_rfl) | refine r _ _ _ ?_ | omega | (simp [maxLen, F4] <;> omega)
   refine WK [(2, Lz v6), (3, AV.ptr 0 0), (4, AV.ptr 1 0), (6, AV.ptr 2 0), (9, Lz v15), (10, Lz v16), (11, AV.ptr 4 0), (12, Iz v17), (51, AV.bool (decide (v17 < (v3.length : Int))))] [(0, .cells [Iz v12, AV.lst false false (List.map api_Edge.av v13), Lz v14]), (1, .cells [Lz v3, Lz v4, Iz v5]), (2, .cells [Iz 0, AV.slc 3 0 3 (([] : List api_Arc).length) false]), (3, .grow (flatA (List.map api_Arc.av ([] : List api_Arc)))), (4, .cells [Iz (IntKind.wrap .i64 (2 + IntKind.wrap .i64 (2 * v12))), AV.slc 5 0 3 v18.length false]), (5, .grow (flatA (List.map api_Arc.av v18)))] 6 (by simp [F4]) (by simp [F4]) ?_
   by_cases h8 : v17 < (v3.length : Int)
   ·replace hF := ite_t h8 hF
    have h8_ := h8
    try simp at h8_
    have F5 := And.intro F4 (And.intro h8 h8_)
    refine CT (by simp [F5] <;> omega) ?_
    refine AW.skip ?_
    refine hK457 _ _ _ ?_
    refine AW.midF (α := (List api_Arc)) (fun v19 => ref14_Network.J2 k v17 (fun v17_ v18_ => ref14_Network.L1 k v3 v6 v12 v13 v15 v16 n1 v17_ v18_) v19 = some (v7, v8, v9)) (fun v19 => [(2, Lz v6), (3, AV.ptr 0 0), (4, AV.ptr 1 0), (6, AV.ptr 2 0), (9, Lz v15), (10, Lz v16), (11, AV.ptr 4 0), (12, Iz v17)]) (fun v19 => [(0, .cells [Iz v12, AV.lst false false (List.map api_Edge.av v13), Lz v14]), (1, .cells [Lz v3, Lz v4, Iz v5]), (2, .cells [Iz 0, AV.slc 3 0 3 (([] : List api_Arc).length) false]), (3, .grow (flatA (List.map api_Arc.av ([] : List api_Arc)))), (4, .cells [Iz (IntKind.wrap .i64 (2 + IntKind.wrap .i64 (2 * v12))), AV.slc 5 0 3 v19.length false]), (5, .grow (flatA (List.map api_Arc.av v19)))]) 6 (fun K463 hK463 => ?_) ?_
    ·refine AW.block ?_
     refine SQ [] [none, none, none, none, none, none] fun _ _ g r => ?_
     obtain ⟨v20, h9, h10, h11, hF⟩ := idx_elim hF
     have h11_ := get_of h11
     try simp at h11_
     have h10_ := h10
     try simp at h10_
     have F6 := And.intro F5 (And.intro h9 (And.intro h10 (And.intro h11 (And.intro h11_ h10_))))
     try simp [F6]
     and_intros <;> first | exact g _ (by kernel_rfl) | refine r _ _ _ ?_ | omega | (simp [maxLen, F6] <;> omega)
     refine WK [(2, Lz v6), (3, AV.ptr 0 0), (4, AV.ptr 1 0), (6, AV.ptr 2 0), (9, Lz v15), (10, Lz v16), (11, AV.ptr 4 0), (12, Iz v17), (13, Iz v20)] [(0, .cells [Iz v12, AV.lst false false (List.map api_Edge.av v13), Lz v14]), (1, .cells [Lz v3, Lz v4, Iz v5]), (2, .cells [Iz 0, AV.slc 3 0 3 (([] : List api_Arc).length) false]), (3, .grow (flatA (List.map api_Arc.av ([] : List api_Arc)))), (4, .cells [Iz (IntKind.wrap .i64 (2 + IntKind.wrap .i64 (2 * v12))), AV.slc 5 0 3 v18.length false]), (5, .grow (flatA (List.map api_Arc.av v18)))] 6 (by simp [F6]) (by simp [F6]) ?_
     refine SQ [] [none, none, none, none, none] fun _ _ g r => ?_
     obtain ⟨v21, h12, h13, h14, hF⟩ := idx_elim hF
     have h14_ := get_of h14
     try simp at h14_
     have h13_ := h13
     try simp at h13_
     have F7 := And.intro F6 (And.intro h12 (And.intro h13 (And.intro h14 (And.intro h14_ h13_))))
     try simp [F7]
     and_intros <;> first | exact g _ (by kernel_rfl) | refine r _ _ _ ?_ | omega | (simp [maxLen, F7] <;> omega)
     refine WK [(2, Lz v6), (3, AV.ptr 0 0), (4, AV.ptr 1 0), (6, AV.ptr 2 0), (9, Lz v15), (10, Lz v16), (11, AV.ptr 4 0), (12, Iz v17), (13, Iz v20), (63, AV.bool (decide (0 ≤ v21)))] [(0, .cells [Iz v12, AV.lst false false (List.map api_Edge.av v13), Lz v14]), (1, .cells [Lz v3, Lz v4, Iz v5]), (2, .cells [Iz 0, AV.slc 3 0 3 (([] : List api_Arc).length) false]), (3, .grow (flatA (List.map api_Arc.av ([] : List api_Arc)))), (4, .cells [Iz (IntKind.wrap .i64 (2 + IntKind.wrap .i64 (2 * v12))), AV.slc 5 0 3 v18.length false]), (5, .grow (flatA (List.map api_Arc.av v18)))] 6 (by simp [F7]) (by simp [F7]) ?_
     by_cases h15 : 0 ≤ v21
     ·replace hF := ite_t h15 hF
      have h15_ := h15
      try simp at h15_
      have F8 := And.intro F7 (And.intro h15 h15_)
      refine CT (by simp [F8] <;> omega) ?_
      refine RG [] [none, none, none, none, none, none, none, none, none, none, none, none, none] fun _ _ g r => ?_
      try simp [F8]
      and_intros
      try any_goals first | omega | (simp [maxLen, F8] <;> omega)
      obtain ⟨v22, h16, hF⟩ := bnd1_elim hF
      refine AC (w_ref14_Entry k _ _ h16) (.cons (.same (by simp [F8])) .nil) ?_
      obtain ⟨v23, h17, h18, h19, hF⟩ := idx_elim hF
      have h19_ := get_of h19
      try simp at h19_
      have h18_ := h18
      try simp at h18_
      obtain ⟨h20, hF⟩ := chk_elim hF
      have h20_ := h20
      try simp at h20_
      have F9 := And.intro F8 (And.intro h17 (And.intro h18 (And.intro h19 (And.intro h19_ (And.intro h18_ h20)))))
      try simp [F9]
      and_intros <;> first | exact g _ (by kernel_rfl) | refine r _ _ _ ?_ | omega | (simp [maxLen, F9] <;> omega)
      refine hK463 _ _ _ ?_
      refine RN h0 [(0, 0), (1, 1), (2, 2), (3, 3), (4, 4), (5, 6)] [(2, Lz v6), (3, AV.ptr 0 0), (4, AV.ptr 1 0), (6, AV.ptr 2 0), (9, Lz v15), (10, Lz v16), (11, AV.ptr 4 0), (12, Iz v17)] [(0, .cells [Iz v12, AV.lst false false (List.map api_Edge.av v13), Lz v14]), (1, .cells [Lz v3, Lz v4, Iz v5]), (2, .cells [Iz 0, AV.slc 3 0 3 (([] : List api_Arc).length) false]), (3, .grow (flatA (List.map api_Arc.av ([] : List api_Arc)))), (4, .cells [Iz (IntKind.wrap .i64 (2 + IntKind.wrap .i64 (2 * v12))), AV.slc 5 0 3 ((v18 ++ ([(api_Arc.mk 0 v22 v23)] : List api_Arc)).length) false]), (5, .grow (flatA (List.map api_Arc.av (v18 ++ ([(api_Arc.mk 0 v22 v23)] : List api_Arc)))))] 6 (by simp [F9]) (by simp [F9] <;> omega) ?_
      exact JN (v18 ++ ([(api_Arc.mk 0 v22 v23)] : List api_Arc)) hF (by simp [F9]) (by simp [F9])
     ·replace hF := ite_f h15 hF
      have h15_ := h15
      try simp at h15_
      have F10 := And.intro F7 (And.intro h15 h15_)
      refine CF (by simp [F10] <;> omega) ?_
      refine AW.skip ?_
      refine hK463 _ _ _ ?_
      exact JN (v18) hF (by simp [F10]) (by simp [F10])
    ·rintro v19 hF
     try dsimp only at hF
     unfold ref14_Network.J2 at hF
     refine RG [] [none, none, none] fun _ _ g r => ?_
     try simp [F5]
     and_intros <;> first | exact g _ (by kernel_rfl) | refine r _ _ _ ?_ | omega | (simp [maxLen, F5] <;> omega)
     refine hK455 _ _ _ ?_
     exact NX (k' := n1) ((IntKind.wrap .i64 (v17 + 1), v19)) hF (by simp [F5]) (by simp [F5])
   ·replace hF := ite_f h8 hF
    have h8_ := h8
    try simp at h8_
    have F11 := And.intro F4 (And.intro h8 h8_)
    refine CF (by simp [F11] <;> omega) ?_
    refine AW.exit ?_
    try simp
    refine hK420 _ _ _ ?_
    refine AW.seq fun K505 hK505 => ?_
    refine SQ [] [none] fun _ _ g r => ?_
    try simp [F11]
    and_intros <;> first | exact g _ (by kernel_rfl) | refine r _ _ _ ?_ | omega | (simp [maxLen, F11] <;> omega)
    refine WK [(2, Lz v6), (3, AV.ptr 0 0), (6, AV.ptr 2 0), (9, Lz v15), (10, Lz v16), (11, AV.ptr 4 0), (14, Iz 0)] [(0, .cells [Iz v12, AV.lst false false (List.map api_Edge.av v13), Lz v14]), (2, .cells [Iz 0, AV.slc 3 0 3 (([] : List api_Arc).length) false]), (3, .grow (flatA (List.map api_Arc.av ([] : List api_Arc)))), (4, .cells [Iz (IntKind.wrap .i64 (2 + IntKind.wrap .i64 (2 * v12))), AV.slc 5 0 3 v18.length false]), (5, .grow (flatA (List.map api_Arc.av v18)))] 6 (by simp [F11]) (by simp [F11]) ?_
    refine AW.block ?_
    refine RM h0 [(0, 0), (1, 2), (2, 3), (3, 4), (4, 5)] [(2, Lz v6), (3, AV.ptr 0 0), (6, AV.ptr 1 0), (9, Lz v15), (10, Lz v16), (11, AV.ptr 3 0), (14, Iz 0)] [(0, .cells [Iz v12, AV.lst false false (List.map api_Edge.av v13), Lz v14]), (1, .cells [Iz 0, AV.slc 2 0 3 (([] : List api_Arc).length) false]), (2, .grow (flatA (List.map api_Arc.av ([] : List api_Arc)))), (3, .cells [Iz (IntKind.wrap .i64 (2 + IntKind.wrap .i64 (2 * v12))), AV.slc 4 0 3 v18.length false]), (4, .grow (flatA (List.map api_Arc.av v18)))] 5 (by simp [F11]) (by simp [F11]) ?_
    refine AW.loopF (α := (Int × (List api_Arc))) (fun n (v24, v25) => ref14_Network.L3 k v6 v12 v13 v15 v16 n v24 v25 = some (v7, v8, v9)) (fun (v24, v25) => [(2, Lz v6), (3, AV.ptr 0 0), (6, AV.ptr 1 0), (9, Lz v15), (10, Lz v16), (11, AV.ptr 3 0), (14, Iz v24)]) (fun (v24, v25) => [(0, .cells [Iz v12, AV.lst false false (List.map api_Edge.av v13), Lz v14]), (1, .cells [Iz 0, AV.slc 2 0 3 (([] : List api_Arc).length) false]), (2, .grow (flatA (List.map api_Arc.av ([] : List api_Arc)))), (3, .cells [Iz (IntKind.wrap .i64 (2 + IntKind.wrap .i64 (2 * v12))), AV.slc 4 0 3 v25.length false]), (4, .grow (flatA (List.map api_Arc.av v25)))]) 5 k ((0, v18)) hF (by simp [F11]) (by simp [F11]) (by simp) ?_
    rintro (_|n3) ⟨v24, v25⟩ hF K534 hK534
    ·try dsimp only at hF
     rw [ref14_Network.L3] at hF; cases hF
    try dsimp only at hF
    rw [ref14_Network.L3] at hF
    refine AW.seq fun K536 hK536 => ?_
    refine SQ [] [none, none, none, none] fun _ _ g r => ?_
    try simp [F11]
    and_intros <;> first | exact g _ (by kernel_rfl) | refine r _ _ _ ?_ | omega | (simp [maxLen, F11] <;> omega)
    refine WK [(2, Lz v6), (3, AV.ptr 0 0), (6, AV.ptr 1 0), (9, Lz v15), (10, Lz v16), (11, AV.ptr 3 0), (14, Iz v24), (79, AV.bool (decide (v24 < v12)))] [(0, .cells [Iz v12, AV.lst false false (List.map api_Edge.av v13), Lz v14]), (1, .cells [Iz 0, AV.slc 2 0 3 (([] : List api_Arc).length) false]), (2, .grow (flatA (List.map api_Arc.av ([] : List api_Arc)))), (3, .cells [Iz (IntKind.wrap .i64 (2 + IntKind.wrap .i64 (2 * v12))), AV.slc 4 0 3 v25.length false]), (4, .grow (flatA (List.map api_Arc.av v25)))] 5 (by simp [F11]) (by simp [F11]) ?_
    by_cases h21 : v24 < v12
    ·replace hF := ite_t h21 hF
     have h21_ := h21
     try simp at h21_
     have F12 := And.intro F11 (And.intro h21 h21_)
     refine CT (by simp [F12] <;> omega) ?_
     refine AW.skip ?_
     refine hK536 _ _ _ ?_
     refine AW.midF (α := (List api_Arc)) (fun v26 => ref14_Network.J4 k v24 (fun v24_ v25_ => ref14_Network.L3 k v6 v12 v13 v15 v16 n3 v24_ v25_) v26 = some (v7, v8, v9)) (fun v26 => [(2, Lz v6), (3, AV.ptr 0 0), (6, AV.ptr 1 0), (9, Lz v15), (10, Lz v16), (11, AV.ptr 3 0), (14, Iz v24)]) (fun v26 => [(0, .cells [Iz v12, AV.lst false false (List.map api_Edge.av v13), Lz v14]), (1, .cells [Iz 0, AV.slc 2 0 3 (([] : List api_Arc).length) false]), (2, .grow (flatA (List.map api_Arc.av ([] : List api_Arc)))), (3, .cells [Iz (IntKind.wrap .i64 (2 + IntKind.wrap .i64 (2 * v12))), AV.slc 4 0 3 v26.length false]), (4, .grow (flatA (List.map api_Arc.av v26)))]) 5 (fun K541 hK541 => ?_) ?_
     ·refine AW.block ?_
      refine SQ [] [none, none, none, none, none] fun _ _ g r => ?_
      obtain ⟨v27, h22, h23, h24, hF⟩ := idx_elim hF
      have h24_ := get_of h24
      try simp at h24_
      have h23_ := h23
      try simp at h23_
      have F13 := And.intro F12 (And.intro h22 (And.intro h23 (And.intro h24 (And.intro h24_ h23_))))
      try simp [F13]
      and_intros <;> first | exact g _ (by kernel_rfl) | refine r _ _ _ ?_ | omega | (simp [maxLen, F13] <;> omega)
      refine WK [(2, Lz v6), (3, AV.ptr 0 0), (6, AV.ptr 1 0), (9, Lz v15), (10, Lz v16), (11, AV.ptr 3 0), (14, Iz v24), (86, AV.bool (decide (0 ≤ v27)))] [(0, .cells [Iz v12, AV.lst false false (List.map api_Edge.av v13), Lz v14]), (1, .cells [Iz 0, AV.slc 2 0 3 (([] : List api_Arc).length) false]), (2, .grow (flatA (List.map api_Arc.av ([] : List api_Arc)))), (3, .cells [Iz (IntKind.wrap .i64 (2 + IntKind.wrap .i64 (2 * v12))), AV.slc 4 0 3 v25.length false]), (4, .grow (flatA (List.map api_Arc.av v25)))] 5 (by simp [F13]) (by simp [F13]) ?_
      by_cases h25 : 0 ≤ v27
      ·replace hF := ite_t h25 hF
       have h25_ := h25
       try simp at h25_
       have F14 := And.intro F13 (And.intro h25 h25_)
       refine CT (by simp [F14] <;> omega) ?_
       refine RG [] [none, none, none, none, none, none, none, none, none, none, none, none, none, none, none, none] fun _ _ g r => ?_
       try simp [F14]
       and_intros
       try any_goals first | omega | (simp [maxLen, F14] <;> omega)
       obtain ⟨v28, h26, hF⟩ := bnd1_elim hF
       refine AC (w_ref14_Entry k _ _ h26) (.cons (.same (by simp [F14])) .nil) ?_
       try simp [F14]
       and_intros
       try any_goals first | omega | (simp [maxLen, F14] <;> omega)
       obtain ⟨v29, h27, hF⟩ := bnd1_elim hF
       refine AC (w_ref14_Exit k _ _ h27) (.cons (.same (by simp [F14])) .nil) ?_
       obtain ⟨v30, h28, h29, h30, hF⟩ := idx_elim hF
       have h30_ := get_of h30
       try simp at h30_
       have h29_ := h29
       try simp at h29_
       obtain ⟨h31, hF⟩ := chk_elim hF
       have h31_ := h31
       try simp at h31_
       have F15 := And.intro F14 (And.intro h28 (And.intro h29 (And.intro h30 (And.intro h30_ (And.intro h29_ h31)))))
       try simp [F15]
       and_intros <;> first | exact g _ (by kernel_rfl) | refine r _ _ _ ?_ | omega | (simp [maxLen, F15] <;> omega)
       refine hK541 _ _ _ ?_
       refine RN h0 [(0, 0), (1, 1), (2, 2), (3, 3), (4, 5)] [(2, Lz v6), (3, AV.ptr 0 0), (6, AV.ptr 1 0), (9, Lz v15), (10, Lz v16), (11, AV.ptr 3 0), (14, Iz v24)] [(0, .cells [Iz v12, AV.lst false false (List.map api_Edge.av v13), Lz v14]), (1, .cells [Iz 0, AV.slc 2 0 3 (([] : List api_Arc).length) false]), (2, .grow (flatA (List.map api_Arc.av ([] : List api_Arc)))), (3, .cells [Iz (IntKind.wrap .i64 (2 + IntKind.wrap .i64 (2 * v12))), AV.slc 4 0 3 ((v25 ++ ([(api_Arc.mk v28 v29 (IntKind.wrap .i64 (v30 - 1)))] : List api_Arc)).length) false]), (4, .grow (flatA (List.map api_Arc.av (v25 ++ ([(api_Arc.mk v28 v29 (IntKind.wrap .i64 (v30 - 1)))] : List api_Arc)))))] 5 (by simp [F15]) (by simp [F15] <;> omega) ?_
       exact JN (v25 ++ ([(api_Arc.mk v28 v29 (IntKind.wrap .i64 (v30 - 1)))] : List api_Arc)) hF (by simp [F15]) (by simp [F15])
      ·replace hF := ite_f h25 hF
       have h25_ := h25
       try simp at h25_
       have F16 := And.intro F13 (And.intro h25 h25_)
       refine CF (by simp [F16] <;> omega) ?_
       refine AW.skip ?_
       refine hK541 _ _ _ ?_
       exact JN (v25) hF (by simp [F16]) (by simp [F16])
     ·rintro v26 hF
      try dsimp only at hF
      unfold ref14_Network.J4 at hF
      refine RG [] [none, none, none] fun _ _ g r => ?_
      try simp [F12]
      and_intros <;> first | exact g _ (by kernel_rfl) | refine r _ _ _ ?_ | omega | (simp [maxLen, F12] <;> omega)
      refine hK534 _ _ _ ?_
      exact NX (k' := n3) ((IntKind.wrap .i64 (v24 + 1), v26)) hF (by simp [F12]) (by simp [F12])
    ·replace hF := ite_f h21 hF
     have h21_ := h21
     try simp at h21_
     have F17 := And.intro F11 (And.intro h21 h21_)
     refine CF (by simp [F17] <;> omega) ?_
     refine AW.exit ?_
     try simp
     refine hK505 _ _ _ ?_
     refine AW.seq fun K582 hK582 => ?_
     refine SQ [] [none] fun _ _ g r => ?_
     try simp [F17]
     and_intros <;> first | exact g _ (by kernel_rfl) | refine r _ _ _ ?_ | omega | (simp [maxLen, F17] <;> omega)
     refine WK [(2, Lz v6), (3, AV.ptr 0 0), (6, AV.ptr 1 0), (9, Lz v15), (11, AV.ptr 3 0), (15, Iz 0)] [(0, .cells [Iz v12, AV.lst false false (List.map api_Edge.av v13), Lz v14]), (1, .cells [Iz 0, AV.slc 2 0 3 (([] : List api_Arc).length) false]), (2, .grow (flatA (List.map api_Arc.av ([] : List api_Arc)))), (3, .cells [Iz (IntKind.wrap .i64 (2 + IntKind.wrap .i64 (2 * v12))), AV.slc 4 0 3 v25.length false]), (4, .grow (flatA (List.map api_Arc.av v25)))] 5 (by simp [F17]) (by simp [F17]) ?_
     refine AW.block ?_
     refine AW.loopF (α := (Int × (List api_Arc))) (fun n (v31, v32) => ref14_Network.L5 k v6 v12 v13 v15 n v31 v32 = some (v7, v8, v9)) (fun (v31, v32) => [(2, Lz v6), (3, AV.ptr 0 0), (6, AV.ptr 1 0), (9, Lz v15), (11, AV.ptr 3 0), (15, Iz v31)]) (fun (v31, v32) => [(0, .cells [Iz v12, AV.lst false false (List.map api_Edge.av v13), Lz v14]), (1, .cells [Iz 0, AV.slc 2 0 3 (([] : List api_Arc).length) false]), (2, .grow (flatA (List.map api_Arc.av ([] : List api_Arc)))), (3, .cells [Iz (IntKind.wrap .i64 (2 + IntKind.wrap .i64 (2 * v12))), AV.slc 4 0 3 v32.length false]), (4, .grow (flatA (List.map api_Arc.av v32)))]) 5 k ((0, v25)) hF (by simp [F17]) (by simp [F17]) (by simp) ?_
     rintro (_|n5) ⟨v31, v32⟩ hF K611 hK611
     ·try dsimp only at hF
      rw [ref14_Network.L5] at hF; cases hF
     try dsimp only at hF
     rw [ref14_Network.L5] at hF
     refine AW.seq fun K613 hK613 => ?_
     refine SQ [] [none, none, none, none] fun _ _ g r => ?_
     try simp [F17]
     and_intros <;> first | exact g _ (by kernel_rfl) | refine r _ _ _ ?_ | omega | (simp [maxLen, F17] <;> omega)
     refine WK [(2, Lz v6), (3, AV.ptr 0 0), (6, AV.ptr 1 0), (9, Lz v15), (11, AV.ptr 3 0), (15, Iz v31), (105, AV.bool (decide (v31 < (v6.length : Int))))] [(0, .cells [Iz v12, AV.lst false false (List.map api_Edge.av v13), Lz v14]), (1, .cells [Iz 0, AV.slc 2 0 3 (([] : List api_Arc).length) false]), (2, .grow (flatA (List.map api_Arc.av ([] : List api_Arc)))), (3, .cells [Iz (IntKind.wrap .i64 (2 + IntKind.wrap .i64 (2 * v12))), AV.slc 4 0 3 v32.length false]), (4, .grow (flatA (List.map api_Arc.av v32)))] 5 (by simp [F17]) (by simp [F17]) ?_
     by_cases h32 : v31 < (v6.length : Int)
     ·replace hF := ite_t h32 hF
      have h32_ := h32
      try simp at h32_
      have F18 := And.intro F17 (And.intro h32 h32_)
      refine CT (by simp [F18] <;> omega) ?_
      refine AW.skip ?_
      refine hK613 _ _ _ ?_
      refine AW.midF (α := (List api_Arc)) (fun v33 => ref14_Network.J6 k v31 (fun v31_ v32_ => ref14_Network.L5 k v6 v12 v13 v15 n5 v31_ v32_) v33 = some (v7, v8, v9)) (fun v33 => [(2, Lz v6), (3, AV.ptr 0 0), (6, AV.ptr 1 0), (9, Lz v15), (11, AV.ptr 3 0), (15, Iz v31)]) (fun v33 => [(0, .cells [Iz v12, AV.lst false false (List.map api_Edge.av v13), Lz v14]), (1, .cells [Iz 0, AV.slc 2 0 3 (([] : List api_Arc).length) false]), (2, .grow (flatA (List.map api_Arc.av ([] : List api_Arc)))), (3, .cells [Iz (IntKind.wrap .i64 (2 + IntKind.wrap .i64 (2 * v12))), AV.slc 4 0 3 v33.length false]), (4, .grow (flatA (List.map api_Arc.av v33)))]) 5 (fun K618 hK618 => ?_) ?_
      ·refine AW.block ?_
       refine SQ [] [none, none, none, none, none, none, none, none] fun _ _ g r => ?_
       obtain ⟨v34, h33, h34, h35, hF⟩ := idx_elim hF
       have h35_ := get_of h35
       try simp at h35_
       have h34_ := h34
       try simp at h34_
       obtain ⟨v35, h36, h37, h38, hF⟩ := idx_elim hF
       have h38_ := get_of h38
       try simp at h38_
       have h37_ := h37
       try simp at h37_
       have F19 := And.intro F18 (And.intro h33 (And.intro h34 (And.intro h35 (And.intro h35_ (And.intro h34_ (And.intro h36 (And.intro h37 (And.intro h38 (And.intro h38_ h37_)))))))))
       try simp [F19]
       and_intros <;> first | exact g _ (by kernel_rfl) | refine r _ _ _ ?_ | omega | (simp [maxLen, F19] <;> omega)
       refine WK [(2, Lz v6), (3, AV.ptr 0 0), (6, AV.ptr 1 0), (9, Lz v15), (11, AV.ptr 3 0), (15, Iz v31), (115, AV.bool (decide (0 ≤ v35)))] [(0, .cells [Iz v12, AV.lst false false (List.map api_Edge.av v13), Lz v14]), (1, .cells [Iz 0, AV.slc 2 0 3 (([] : List api_Arc).length) false]), (2, .grow (flatA (List.map api_Arc.av ([] : List api_Arc)))), (3, .cells [Iz (IntKind.wrap .i64 (2 + IntKind.wrap .i64 (2 * v12))), AV.slc 4 0 3 v32.length false]), (4, .grow (flatA (List.map api_Arc.av v32)))] 5 (by simp [F19]) (by simp [F19]) ?_
       by_cases h39 : 0 ≤ v35
       ·replace hF := ite_t h39 hF
        have h39_ := h39
        try simp at h39_
        have F20 := And.intro F19 (And.intro h39 h39_)
        refine CT (by simp [F20] <;> omega) ?_
        refine RG [] [none, none, none, none, none, none, none, none, none, none, none, none] fun _ _ g r => ?_
        try simp [F20]
        and_intros
        try any_goals first | omega | (simp [maxLen, F20] <;> omega)
        obtain ⟨v36, h40, hF⟩ := bnd1_elim hF
        refine AC (w_ref14_Entry k _ _ h40) (.cons (.same (by simp [F20])) .nil) ?_
        obtain ⟨h41, hF⟩ := chk_elim hF
        have h41_ := h41
        try simp at h41_
        have F21 := And.intro F20 h41
        try simp [F21]
        and_intros <;> first | exact g _ (by kernel_rfl) | refine r _ _ _ ?_ | omega | (simp [maxLen, F21] <;> omega)
        refine hK618 _ _ _ ?_
        refine RN h0 [(0, 0), (1, 1), (2, 2), (3, 3), (4, 5)] [(2, Lz v6), (3, AV.ptr 0 0), (6, AV.ptr 1 0), (9, Lz v15), (11, AV.ptr 3 0), (15, Iz v31)] [(0, .cells [Iz v12, AV.lst false false (List.map api_Edge.av v13), Lz v14]), (1, .cells [Iz 0, AV.slc 2 0 3 (([] : List api_Arc).length) false]), (2, .grow (flatA (List.map api_Arc.av ([] : List api_Arc)))), (3, .cells [Iz (IntKind.wrap .i64 (2 + IntKind.wrap .i64 (2 * v12))), AV.slc 4 0 3 ((v32 ++ ([(api_Arc.mk v36 1 1)] : List api_Arc)).length) false]), (4, .grow (flatA (List.map api_Arc.av (v32 ++ ([(api_Arc.mk v36 1 1)] : List api_Arc)))))] 5 (by simp [F21]) (by simp [F21] <;> omega) ?_
        exact JN (v32 ++ ([(api_Arc.mk v36 1 1)] : List api_Arc)) hF (by simp [F21]) (by simp [F21])
       ·replace hF := ite_f h39 hF
        have h39_ := h39
        try simp at h39_
        have F22 := And.intro F19 (And.intro h39 h39_)
        refine CF (by simp [F22] <;> omega) ?_
        refine AW.skip ?_
        refine hK618 _ _ _ ?_
        exact JN (v32) hF (by simp [F22]) (by simp [F22])
      ·rintro v33 hF
       try dsimp only at hF
       unfold ref14_Network.J6 at hF
       refine RG [] [none, none, none] fun _ _ g r => ?_
       try simp [F18]
       and_intros <;> first | exact g _ (by kernel_rfl) | refine r _ _ _ ?_ | omega | (simp [maxLen, F18] <;> omega)
       refine hK611 _ _ _ ?_
       exact NX (k' := n5) ((IntKind.wrap .i64 (v31 + 1), v33)) hF (by simp [F18]) (by simp [F18])
     ·replace hF := ite_f h32 hF
      have h32_ := h32
      try simp at h32_
      have F23 := And.intro F17 (And.intro h32 h32_)
      refine CF (by simp [F23] <;> omega) ?_
      refine AW.exit ?_
      try simp
      refine hK582 _ _ _ ?_
      refine AW.seq fun K667 hK667 => ?_
      refine SQ [] [none] fun _ _ g r => ?_
      try simp [F23]
      and_intros <;> first | exact g _ (by kernel_rfl) | refine r _ _ _ ?_ | omega | (simp [maxLen, F23] <;> omega)
      refine WK [(3, AV.ptr 0 0), (6, AV.ptr 1 0), (9, Lz v15), (11, AV.ptr 3 0), (16, Iz 0)] [(0, .cells [Iz v12, AV.lst false false (List.map api_Edge.av v13), Lz v14]), (1, .cells [Iz 0, AV.slc 2 0 3 (([] : List api_Arc).length) false]), (2, .grow (flatA (List.map api_Arc.av ([] : List api_Arc)))), (3, .cells [Iz (IntKind.wrap .i64 (2 + IntKind.wrap .i64 (2 * v12))), AV.slc 4 0 3 v32.length false]), (4, .grow (flatA (List.map api_Arc.av v32)))] 5 (by simp [F23]) (by simp [F23]) ?_
      refine AW.block ?_
      refine AW.loopF (α := (Int × (List api_Arc))) (fun n (v37, v38) => ref14_Network.L7 k v12 v13 v15 n v37 v38 = some (v7, v8, v9)) (fun (v37, v38) => [(3, AV.ptr 0 0), (6, AV.ptr 1 0), (9, Lz v15), (11, AV.ptr 3 0), (16, Iz v37)]) (fun (v37, v38) => [(0, .cells [Iz v12, AV.lst false false (List.map api_Edge.av v13), Lz v14]), (1, .cells [Iz 0, AV.slc 2 0 3 (([] : List api_Arc).length) false]), (2, .grow (flatA (List.map api_Arc.av ([] : List api_Arc)))), (3, .cells [Iz (IntKind.wrap .i64 (2 + IntKind.wrap .i64 (2 * v12))), AV.slc 4 0 3 v38.length false]), (4, .grow (flatA (List.map api_Arc.av v38)))]) 5 k ((0, v32)) hF (by simp [F23]) (by simp [F23]) (by simp) ?_
      rintro (_|n7) ⟨v37, v38⟩ hF K702 hK702
      ·try dsimp only at hF
       rw [ref14_Network.L7] at hF; cases hF
      try dsimp only at hF
      rw [ref14_Network.L7] at hF
      refine AW.seq fun K704 hK704 => ?_
      refine SQ [] [none, none, none, none, none] fun _ _ g r => ?_
      try simp [F23]
      and_intros <;> first | exact g _ (by kernel_rfl) | refine r _ _ _ ?_ | omega | (simp [maxLen, F23] <;> omega)
      refine WK [(3, AV.ptr 0 0), (6, AV.ptr 1 0), (9, Lz v15), (11, AV.ptr 3 0), (16, Iz v37), (131, AV.bool (decide (v37 < (v13.length : Int))))] [(0, .cells [Iz v12, AV.lst false false (List.map api_Edge.av v13), Lz v14]), (1, .cells [Iz 0, AV.slc 2 0 3 (([] : List api_Arc).length) false]), (2, .grow (flatA (List.map api_Arc.av ([] : List api_Arc)))), (3, .cells [Iz (IntKind.wrap .i64 (2 + IntKind.wrap .i64 (2 * v12))), AV.slc 4 0 3 v38.length false]), (4, .grow (flatA (List.map api_Arc.av v38)))] 5 (by simp [F23]) (by simp [F23]) ?_
      by_cases h42 : v37 < (v13.length : Int)
      ·replace hF := ite_t h42 hF
       have h42_ := h42
       try simp at h42_
       have F24 := And.intro F23 (And.intro h42 h42_)
       refine CT (by simp [F24] <;> omega) ?_
       refine AW.skip ?_
       refine hK704 _ _ _ ?_
       refine AW.midF (α := (List api_Arc)) (fun v39 => ref14_Network.J8 k v37 (fun v37_ v38_ => ref14_Network.L7 k v12 v13 v15 n7 v37_ v38_) v39 = some (v7, v8, v9)) (fun v39 => [(3, AV.ptr 0 0), (6, AV.ptr 1 0), (9, Lz v15), (11, AV.ptr 3 0), (16, Iz v37)]) (fun v39 => [(0, .cells [Iz v12, AV.lst false false (List.map api_Edge.av v13), Lz v14]), (1, .cells [Iz 0, AV.slc 2 0 3 (([] : List api_Arc).length) false]), (2, .grow (flatA (List.map api_Arc.av ([] : List api_Arc)))), (3, .cells [Iz (IntKind.wrap .i64 (2 + IntKind.wrap .i64 (2 * v12))), AV.slc 4 0 3 v39.length false]), (4, .grow (flatA (List.map api_Arc.av v39)))]) 5 (fun K710 hK710 => ?_) ?_
       ·refine AW.block ?_
        refine SQ [] [none, none, none, none, none, none, none] fun _ _ g r => ?_
        obtain ⟨v40, h43, h44, h45, hF⟩ := idx_elim hF
        have h45_ := get_of h45
        try simp at h45_
        have h44_ := h44
        try simp at h44_
        have F25 := And.intro F24 (And.intro h43 (And.intro h44 (And.intro h45 (And.intro h45_ h44_))))
        try simp [F25]
        and_intros <;> first | exact g _ (by kernel_rfl) | refine r _ _ _ ?_ | omega | (simp [maxLen, F25] <;> omega)
        refine WK [(3, AV.ptr 0 0), (6, AV.ptr 1 0), (9, Lz v15), (11, AV.ptr 3 0), (16, Iz v37), (17, AV.ptr 5 0)] [(0, .cells [Iz v12, AV.lst false false (List.map api_Edge.av v13), Lz v14]), (1, .cells [Iz 0, AV.slc 2 0 3 (([] : List api_Arc).length) false]), (2, .grow (flatA (List.map api_Arc.av ([] : List api_Arc)))), (3, .cells [Iz (IntKind.wrap .i64 (2 + IntKind.wrap .i64 (2 * v12))), AV.slc 4 0 3 v38.length false]), (4, .grow (flatA (List.map api_Arc.av v38))), (5, .cells [Iz v40.From, Iz v40.To, Iz v40.Level])] 6 (by simp [F25]) (by simp [F25]) ?_
        refine SQ [] [none, none, none, none, none, none] fun _ _ g r => ?_
        obtain ⟨v41, h46, h47, h48, hF⟩ := idx_elim hF
        have h48_ := get_of h48
        try simp at h48_
        have h47_ := h47
        try simp at h47_
        have F26 := And.intro F25 (And.intro h46 (And.intro h47 (And.intro h48 (And.intro h48_ h47_))))
        try simp [F26]
        and_intros <;> first | exact g _ (by kernel_rfl) | refine r _ _ _ ?_ | omega | (simp [maxLen, F26] <;> omega)
        refine WK [(3, AV.ptr 0 0), (6, AV.ptr 1 0), (9, Lz v15), (11, AV.ptr 3 0), (16, Iz v37), (17, AV.ptr 5 0), (144, AV.bool (decide (0 ≤ v41)))] [(0, .cells [Iz v12, AV.lst false false (List.map api_Edge.av v13), Lz v14]), (1, .cells [Iz 0, AV.slc 2 0 3 (([] : List api_Arc).length) false]), (2, .grow (flatA (List.map api_Arc.av ([] : List api_Arc)))), (3, .cells [Iz (IntKind.wrap .i64 (2 + IntKind.wrap .i64 (2 * v12))), AV.slc 4 0 3 v38.length false]), (4, .grow (flatA (List.map api_Arc.av v38))), (5, .cells [Iz v40.From, Iz v40.To, Iz v40.Level])] 6 (by simp [F26]) (by simp [F26]) ?_
        by_cases h49 : 0 ≤ v41
        ·replace hF := ite_t h49 hF
         have h49_ := h49
         try simp at h49_
         have F27 := And.intro F26 (And.intro h49 h49_)
         refine CT (by simp [F27] <;> omega) ?_
         refine RG [] [none, none, none, none, none, none, none, none, none, none, none, none, none] fun _ _ g r => ?_
         try simp [F27]
         and_intros
         try any_goals first | omega | (simp [maxLen, F27] <;> omega)
         obtain ⟨v42, h50, hF⟩ := bnd1_elim hF
         refine AC (w_ref14_Exit k _ _ h50) (.cons (.same (by simp [F27])) .nil) ?_
         try simp [F27]
         and_intros
         try any_goals first | omega | (simp [maxLen, F27] <;> omega)
         obtain ⟨v43, h51, hF⟩ := bnd1_elim hF
         refine AC (w_ref14_Entry k _ _ h51) (.cons (.same (by simp [F27])) .nil) ?_
         obtain ⟨h52, hF⟩ := chk_elim hF
         have h52_ := h52
         try simp at h52_
         have F28 := And.intro F27 h52
         try simp [F28]
         and_intros <;> first | exact g _ (by kernel_rfl) | refine r _ _ _ ?_ | omega | (simp [maxLen, F28] <;> omega)
         refine hK710 _ _ _ ?_
         refine RN h0 [(0, 0), (1, 1), (2, 2), (3, 3), (4, 6)] [(3, AV.ptr 0 0), (6, AV.ptr 1 0), (9, Lz v15), (11, AV.ptr 3 0), (16, Iz v37)] [(0, .cells [Iz v12, AV.lst false false (List.map api_Edge.av v13), Lz v14]), (1, .cells [Iz 0, AV.slc 2 0 3 (([] : List api_Arc).length) false]), (2, .grow (flatA (List.map api_Arc.av ([] : List api_Arc)))), (3, .cells [Iz (IntKind.wrap .i64 (2 + IntKind.wrap .i64 (2 * v12))), AV.slc 4 0 3 ((v38 ++ ([(api_Arc.mk v42 v43 64)] : List api_Arc)).length) false]), (4, .grow (flatA (List.map api_Arc.av (v38 ++ ([(api_Arc.mk v42 v43 64)] : List api_Arc)))))] 5 (by simp [F28]) (by simp [F28] <;> omega) ?_
         exact JN (v38 ++ ([(api_Arc.mk v42 v43 64)] : List api_Arc)) hF (by simp [F28]) (by simp [F28])
        ·replace hF := ite_f h49 hF
         have h49_ := h49
         try simp at h49_
         have F29 := And.intro F26 (And.intro h49 h49_)
         refine CF (by simp [F29] <;> omega) ?_
         refine AW.skip ?_
         refine hK710 _ _ _ ?_
         refine RN h0 [(0, 0), (1, 1), (2, 2), (3, 3), (4, 4)] [(3, AV.ptr 0 0), (6, AV.ptr 1 0), (9, Lz v15), (11, AV.ptr 3 0), (16, Iz v37)] [(0, .cells [Iz v12, AV.lst false false (List.map api_Edge.av v13), Lz v14]), (1, .cells [Iz 0, AV.slc 2 0 3 (([] : List api_Arc).length) false]), (2, .grow (flatA (List.map api_Arc.av ([] : List api_Arc)))), (3, .cells [Iz (IntKind.wrap .i64 (2 + IntKind.wrap .i64 (2 * v12))), AV.slc 4 0 3 v38.length false]), (4, .grow (flatA (List.map api_Arc.av v38)))] 5 (by simp [F29]) (by simp [F29]) ?_
         exact JN (v38) hF (by simp [F29]) (by simp [F29])
       ·rintro v39 hF
        try dsimp only at hF
        unfold ref14_Network.J8 at hF
        refine RG [] [none, none, none] fun _ _ g r => ?_
        try simp [F24]
        and_intros <;> first | exact g _ (by kernel_rfl) | refine r _ _ _ ?_ | omega | (simp [maxLen, F24] <;> omega)
        refine hK702 _ _ _ ?_
        exact NX (k' := n7) ((IntKind.wrap .i64 (v37 + 1), v39)) hF (by simp [F24]) (by simp [F24])
      ·replace hF := ite_f h42 hF
       have h42_ := h42
       try simp at h42_
       have F30 := And.intro F23 (And.intro h42 h42_)
       refine CF (by simp [F30] <;> omega) ?_
       refine AW.exit ?_
       try simp
       refine hK667 _ _ _ ?_
       refine SQ [] [none, none, none] fun _ _ g r => ?_
       try simp [F30]
       and_intros <;> first | exact g _ (by kernel_rfl) | refine r _ _ _ ?_ | omega | (simp [maxLen, F30] <;> omega)
       refine RM h0 [(0, 4), (1, 1)] [(6, AV.ptr 1 0), (7, Iz 0)] [(0, .grow (flatA (List.map api_Arc.av v38))), (1, .cells [Iz (IntKind.wrap .i64 (2 + IntKind.wrap .i64 (2 * v12))), AV.slc 0 0 3 v38.length false])] 2 (by simp [F30]) (by simp [F30]) ?_
       simp only [Option.some.injEq, Prod.mk.injEq] at hF
       obtain ⟨e0, e1, e2⟩ := hF
       subst e0 e1 e2
       refine AW.ret (hQ _ _ _ ?_ (matchO_0 ?_)).1
       ·simp [Try.f49, F30]
       ·simp [F30]
theorem w_ref14_Same (k : Nat) (v0 : Int) (v1 : (List api_Arc)) (v2 : Int) (v3 : (List api_Arc)) (v4 : Bool) (hF : ref14_Same k v0 v1 v2 v3 = some v4) :
  FCall Try.prog 50 [AV.agg [AV.int .i64 v0, AV.lst false false (List.map api_Arc.av v1)], AV.agg [AV.int .i64 v2, AV.lst false false (List.map api_Arc.av v3)]] [] (AV.bool v4) [] := by
 unfold ref14_Same at hF
 refine EN Try.func50 ?_
 intro c0 w0 Q h0 hQ
 refine WK [(0, AV.agg [Iz v0, AV.lst false false (List.map api_Arc.av v1)]), (1, AV.agg [Iz v2, AV.lst false false (List.map api_Arc.av v3)])] [] 0 (by simp) (by simp) ?_
 refine SQ [] [none, none, none] fun _ _ g r => ?_
 try simp
 and_intros <;> first | exact g _ (by kernel_rfl) | refine r _ _ _ ?_ | omega | (simp [maxLen] <;> omega)
 refine WK [(2, AV.ptr 0 0), (3, AV.ptr 1 0)] [(0, .cells [Iz v0, AV.lst false false (List.map api_Arc.av v1)]), (1, .cells [Iz v2, AV.lst false false (List.map api_Arc.av v3)])] 2 (by simp) (by simp) ?_
 refine AW.seq fun K91 hK91 => ?_
 refine SQ [] [none, none, none, none, none, none, some (11, false), some (11, false), some (11, false), some (11, false), some (11, false), some (11, false), some (11, false), none] fun _ _ g r => ?_
 by_cases h1 : v0 ≠ v2
 ·replace hF := ite_t h1 hF
  have h1_ := eqb_f h1
  have h1__ := neb_t h1
  have F1 := And.intro h1 (And.intro h1_ h1__)
  try simp [F1]
  and_intros <;> first | exact g _ (by kernel_rfl) | refine r _ _ _ ?_ | omega | (simp [maxLen, F1] <;> omega)
  refine WK [(2, AV.ptr 0 0), (3, AV.ptr 1 0), (19, AV.bool true)] [(0, .cells [Iz v0, AV.lst false false (List.map api_Arc.av v1)]), (1, .cells [Iz v2, AV.lst false false (List.map api_Arc.av v3)])] 2 (by simp [F1]) (by simp [F1]) ?_
  refine CT (by simp [F1]) ?_
  refine SQ [] [none] fun _ _ g r => ?_
  try simp [F1]
  and_intros <;> first | exact g _ (by kernel_rfl) | refine r _ _ _ ?_ | omega | (simp [maxLen, F1] <;> omega)
  refine WK [(4, AV.bool false)] [] 2 (by simp [F1]) (by simp [F1]) ?_
  simp only [Option.some.injEq] at hF
  subst hF
  refine AW.ret (hQ _ _ _ ?_ (matchO_0 ?_)).1
  ·simp [Try.f50, F1]
  ·simp [F1]
 ·replace hF := ite_f h1 hF
  have h1q : v0 = v2 := Classical.not_not.1 h1
  have h1_ := eqb_t h1q
  have h1__ := neb_f h1q
  try simp [h1_, h1__]
  and_intros <;> first | exact g _ (by kernel_rfl) | refine r _ _ _ ?_ | omega | (simp [h1_, h1__, maxLen] <;> omega)
  refine WK [(2, AV.ptr 0 0), (3, AV.ptr 1 0), (19, AV.bool ((v1.length : Int) != (v3.length : Int)))] [(0, .cells [Iz v0, AV.lst false false (List.map api_Arc.av v1)]), (1, .cells [Iz v2, AV.lst false false (List.map api_Arc.av v3)])] 2 (by simp [h1_, h1__]) (by simp [h1_, h1__]) ?_
  by_cases h2 : (v1.length : Int) ≠ (v3.length : Int)
  ·replace hF := ite_t h2 hF
   have h2_ := eqb_f h2
   have h2__ := neb_t h2
   have F2 := And.intro h1_ (And.intro h1__ (And.intro h2 (And.intro h2_ h2__)))
   refine CT (by simp [F2] <;> omega) ?_
   refine SQ [] [none] fun _ _ g r => ?_
   try simp [F2]
   and_intros <;> first | exact g _ (by kernel_rfl) | refine r _ _ _ ?_ | omega | (simp [maxLen, F2] <;> omega)
   refine WK [(4, AV.bool false)] [] 2 (by simp [F2]) (by simp [F2]) ?_
   simp only [Option.some.injEq] at hF
   subst hF
   refine AW.ret (hQ _ _ _ ?_ (matchO_0 ?_)).1
   ·simp [Try.f50, F2]
   ·simp [F2]
  ·replace hF := ite_f h2 hF
   have h2q : (v1.length : Int) = (v3.length : Int) := Classical.not_not.1 h2
   have h2_ := eqb_t h2q
   have h2__ := neb_f h2q
   have F3 := And.intro h1_ (And.intro h1__ (And.intro h2_ h2__))
   refine CF (by simp [F3] <;> omega) ?_
   refine AW.skip ?_
   refine hK91 _ _ _ ?_
   refine AW.seq fun K133 hK133 => ?_
   refine SQ [] [none] fun _ _ g r => ?_
   try simp [F3]
   and_intros <;> first | exact g _ (by kernel_rfl) | refine r _ _ _ ?_ | omega | (simp [maxLen, F3] <;> omega)
   refine WK [(2, AV.ptr 0 0), (3, AV.ptr 1 0), (5, Iz 0)] [(0, .cells [Iz v0, AV.lst false false (List.map api_Arc.av v1)]), (1, .cells [Iz v2, AV.lst false false (List.map api_Arc.av v3)])] 2 (by simp [F3]) (by simp [F3]) ?_
   refine AW.block ?_
   refine AW.loopF (α := Int) (fun n v5 => ref14_Same.L1 k v1 v3 n v5 = some v4) (fun v5 => [(2, AV.ptr 0 0), (3, AV.ptr 1 0), (5, Iz v5)]) (fun v5 => [(0, .cells [Iz v0, AV.lst false false (List.map api_Arc.av v1)]), (1, .cells [Iz v2, AV.lst false false (List.map api_Arc.av v3)])]) 2 k (0) hF (by simp [F3]) (by simp [F3]) (by simp) ?_
   rintro (_|n1) v5 hF K162 hK162
   ·try dsimp only at hF
    rw [ref14_Same.L1] at hF; cases hF
   try dsimp only at hF
   rw [ref14_Same.L1] at hF
   refine AW.seq fun K164 hK164 => ?_
   refine SQ [] [none, none, none, none, none] fun _ _ g r => ?_
   try simp [F3]
   and_intros <;> first | exact g _ (by kernel_rfl) | refine r _ _ _ ?_ | omega | (simp [maxLen, F3] <;> omega)
   refine WK [(2, AV.ptr 0 0), (3, AV.ptr 1 0), (5, Iz v5), (24, AV.bool (decide (v5 < (v1.length : Int))))] [(0, .cells [Iz v0, AV.lst false false (List.map api_Arc.av v1)]), (1, .cells [Iz v2, AV.lst false false (List.map api_Arc.av v3)])] 2 (by simp [F3]) (by simp [F3]) ?_
   by_cases h3 : v5 < (v1.length : Int)
   ·replace hF := ite_t h3 hF
    have h3_ := h3
    try simp at h3_
    have F4 := And.intro F3 (And.intro h3 h3_)
    refine CT (by simp [F4] <;> omega) ?_
    refine AW.skip ?_
    refine hK164 _ _ _ ?_
    refine AW.seq fun K168 hK168 => ?_
    refine AW.block ?_
    refine SQ [] [none, none, none, none, none, none, none, none, none, none, none] fun _ _ g r => ?_
    obtain ⟨v6, h4, h5, h6, hF⟩ := idx_elim hF
    have h6_ := get_of h6
    try simp at h6_
    have h5_ := h5
    try simp at h5_
    obtain ⟨v7, h7, h8, h9, hF⟩ := idx_elim hF
    have h9_ := get_of h9
    try simp at h9_
    have h8_ := h8
    try simp at h8_
    obtain ⟨v8, h10, hF⟩ := let1_elim hF
    have h10_ := h10
    try simp at h10_
    have F5 := And.intro F4 (And.intro h4 (And.intro h5 (And.intro h6 (And.intro h6_ (And.intro h5_ (And.intro h7 (And.intro h8 (And.intro h9 (And.intro h9_ (And.intro h8_ (And.intro h10 h10_)))))))))))
    try simp [F5]
    and_intros <;> first | exact g _ (by kernel_rfl) | refine r _ _ _ ?_ | omega | (simp [maxLen, F5] <;> omega)
    refine WK [(2, AV.ptr 0 0), (3, AV.ptr 1 0), (5, Iz v5), (37, AV.bool (!v8))] [(0, .cells [Iz v0, AV.lst false false (List.map api_Arc.av v1)]), (1, .cells [Iz v2, AV.lst false false (List.map api_Arc.av v3)])] 2 (by simp [F5]) (by simp [F5]) ?_
    by_cases h11 : (!v8) = true
    ·replace hF := ite_t h11 hF
     have h11_ := h11
     try simp at h11_
     have F6 := And.intro F5 (And.intro h11 h11_)
     refine CT (by simp [F6] <;> omega) ?_
     refine SQ [] [none] fun _ _ g r => ?_
     try simp [F6]
     and_intros <;> first | exact g _ (by kernel_rfl) | refine r _ _ _ ?_ | omega | (simp [maxLen, F6] <;> omega)
     refine WK [(4, AV.bool false)] [] 2 (by simp [F6]) (by simp [F6]) ?_
     simp only [Option.some.injEq] at hF
     subst hF
     refine AW.ret (hQ _ _ _ ?_ (matchO_0 ?_)).1
     ·simp [Try.f50, F6]
     ·simp [F6]
    ·replace hF := ite_f h11 hF
     have h11_ := h11
     try simp at h11_
     have F7 := And.intro F5 (And.intro h11 h11_)
     refine CF (by simp [F7] <;> omega) ?_
     refine AW.skip ?_
     refine hK168 _ _ _ ?_
     refine RG [] [none, none, none] fun _ _ g r => ?_
     try simp [F7]
     and_intros <;> first | exact g _ (by kernel_rfl) | refine r _ _ _ ?_ | omega | (simp [maxLen, F7] <;> omega)
     refine hK162 _ _ _ ?_
     exact NX (k' := n1) (IntKind.wrap .i64 (v5 + 1)) hF (by simp [F7]) (by simp [F7])
   ·replace hF := ite_f h3 hF
    have h3_ := h3
    try simp at h3_
    have F8 := And.intro F3 (And.intro h3 h3_)
    refine CF (by simp [F8] <;> omega) ?_
    refine AW.exit ?_
    try simp
    refine hK133 _ _ _ ?_
    refine SQ [] [none] fun _ _ g r => ?_
    try simp [F8]
    and_intros <;> first | exact g _ (by kernel_rfl) | refine r _ _ _ ?_ | omega | (simp [maxLen, F8] <;> omega)
    refine WK [(4, AV.bool true)] [] 2 (by simp [F8]) (by simp [F8]) ?_
    simp only [Option.some.injEq] at hF
    subst hF
    refine AW.ret (hQ _ _ _ ?_ (matchO_0 ?_)).1
    ·simp [Try.f50, F8]
    ·simp [F8]
theorem w_law14_agree (k : Nat) (v0 : Int) (v1 : (List api_Edge)) (v2 : (List Int)) (v3 : (List Int)) (v4 : (List Int)) (v5 : Int) (v6 : (List Int)) (v7 : Bool) (hF : law14_agree k v0 v1 v2 v3 v4 v5 v6 = some v7) :
  FCall Try.prog 28 [AV.agg [AV.int .i64 v0, AV.lst false false (List.map api_Edge.av v1), AV.lst false false (List.map (AV.int .i64) v2)], AV.agg [AV.lst false false (List.map (AV.int .i64) v3), AV.lst false false (List.map (AV.int .i64) v4), AV.int .i64 v5], AV.lst false false (List.map (AV.int .i64) v6)] [] (AV.bool v7) [] := by
 unfold law14_agree at hF
 refine EN Try.func28 ?_
 intro c0 w0 Q h0 hQ
 refine WK [(0, AV.agg [Iz v0, AV.lst false false (List.map api_Edge.av v1), Lz v2]), (1, AV.agg [Lz v3, Lz v4, Iz v5]), (2, Lz v6)] [] 0 (by simp) (by simp) ?_
 refine SQ [] [none, none, none] fun _ _ g r => ?_
 try simp
 and_intros <;> first | exact g _ (by kernel_rfl) | refine r _ _ _ ?_ | omega | (simp [maxLen] <;> omega)
 refine WK [(2, Lz v6), (3, AV.ptr 0 0), (4, AV.ptr 1 0)] [(0, .cells [Iz v0, AV.lst false false (List.map api_Edge.av v1), Lz v2]), (1, .cells [Lz v3, Lz v4, Iz v5])] 2 (by simp) (by simp) ?_
 refine SQ [] [none, none, none, none, none, none, none, none, none, none] fun _ _ g r => ?_
 try simp
 and_intros
 try any_goals first | omega | (simp [maxLen] <;> omega)
 obtain ⟨v8, v9, v10, h1, hF⟩ := bnd3_elim hF
 refine AC (w_split_Network k _ _ _ _ _ _ _ _ _ _ h1) (.cons (.same (by simp)) (.cons (.same (by simp)) (.cons (.same (by simp)) .nil))) ?_
 try simp
 and_intros <;> first | exact g _ (by kernel_rfl) | refine r _ _ _ ?_ | omega | (simp [maxLen] <;> omega)
 refine WK [(2, Lz v6), (3, AV.ptr 0 0), (4, AV.ptr 1 0), (7, AV.ptr 3 0), (8, Iz v10)] [(0, .cells [Iz v0, AV.lst false false (List.map api_Edge.av v1), Lz v2]), (1, .cells [Lz v3, Lz v4, Iz v5]), (2, .grow (flatA (List.map api_Arc.av v9))), (3, .cells [Iz v8, AV.slc 2 0 3 v9.length false])] 4 (by simp) (by simp) ?_
 refine AW.frz 2 (o := .grow (flatA (List.map api_Arc.av v9))) (by simp) rfl [] [(3, .cells [Iz v8, AV.lst false false (List.map api_Arc.av v9)])] trivial ⟨⟨by simp, AObj.cells [Iz v8, AV.slc 2 0 3 v9.length false], by simp, (.mk (.cons (.same _) (.cons (.l (by simp) (by simp) (by simp) (by simp)) .nil)))⟩, trivial⟩ ?_
 refine WK [(2, Lz v6), (3, AV.ptr 0 0), (4, AV.ptr 1 0), (7, AV.ptr 3 0), (8, Iz v10)] [(0, .cells [Iz v0, AV.lst false false (List.map api_Edge.av v1), Lz v2]), (1, .cells [Lz v3, Lz v4, Iz v5]), (3, .cells [Iz v8, AV.lst false false (List.map api_Arc.av v9)])] 4 (by simp) (by simp) ?_
 refine SQ [] [none, none, none, none, none, none, none, none, none, none] fun _ _ g r => ?_
 try simp
 and_intros
 try any_goals first | omega | (simp [maxLen] <;> omega)
 obtain ⟨v11, v12, v13, h2, hF⟩ := bnd3_elim hF
 refine AC (w_ref14_Network k _ _ _ _ _ _ _ _ _ _ h2) (.cons (.same (by simp)) (.cons (.same (by simp)) (.cons (.same (by simp)) .nil))) ?_
 try simp
 and_intros <;> first | exact g _ (by kernel_rfl) | refine r _ _ _ ?_ | omega | (simp [maxLen] <;> omega)
 refine WK [(7, AV.ptr 3 0), (8, Iz v10), (9, AV.ptr 5 0), (10, Iz v13)] [(3, .cells [Iz v8, AV.lst false false (List.map api_Arc.av v9)]), (4, .grow (flatA (List.map api_Arc.av v12))), (5, .cells [Iz v11, AV.slc 4 0 3 v12.length false])] 6 (by simp) (by simp) ?_
 refine AW.frz 4 (o := .grow (flatA (List.map api_Arc.av v12))) (by simp) rfl [] [(5, .cells [Iz v11, AV.lst false false (List.map api_Arc.av v12)])] trivial ⟨⟨by simp, AObj.cells [Iz v11, AV.slc 4 0 3 v12.length false], by simp, (.mk (.cons (.same _) (.cons (.l (by simp) (by simp) (by simp) (by simp)) .nil)))⟩, trivial⟩ ?_
 refine WK [(7, AV.ptr 3 0), (8, Iz v10), (9, AV.ptr 5 0), (10, Iz v13)] [(3, .cells [Iz v8, AV.lst false false (List.map api_Arc.av v9)]), (5, .cells [Iz v11, AV.lst false false (List.map api_Arc.av v12)])] 6 (by simp) (by simp) ?_
 refine SQ [] [none, none, none, none, some (28, true), some (28, true), some (28, true), none, none] fun _ _ g r => ?_
 by_cases h3 : v10 = v13
 ·replace hF := ite_t h3 hF
  have h3q : v10 = v13 := h3
  have h3_ := eqb_t h3q
  have h3__ := neb_f h3q
  try simp [h3_, h3__]
  and_intros
  try any_goals first | omega | (simp [h3_, h3__, maxLen] <;> omega)
  obtain ⟨v14, h4, hF⟩ := bnd1_elim hF
  refine AC (w_ref14_Same k _ _ _ _ _ h4) (.cons (.same (by simp [h3_, h3__])) (.cons (.same (by simp [h3_, h3__])) .nil)) ?_
  try simp [h3_, h3__]
  and_intros <;> first | exact g _ (by kernel_rfl) | refine r _ _ _ ?_ | omega | (simp [h3_, h3__, maxLen] <;> omega)
  refine WK [(6, AV.bool v14)] [] 6 (by simp [h3_, h3__]) (by simp [h3_, h3__]) ?_
  simp only [Option.some.injEq] at hF
  subst hF
  refine AW.ret (hQ _ _ _ ?_ (matchO_0 ?_)).1
  ·simp [Try.f28, h3_, h3__]
  ·simp [h3_, h3__]
 ·replace hF := ite_f h3 hF
  have h3_ := eqb_f h3
  have h3__ := neb_t h3
  have F1 := And.intro h3 (And.intro h3_ h3__)
  try simp [F1]
  and_intros <;> first | exact g _ (by kernel_rfl) | refine r _ _ _ ?_ | omega | (simp [maxLen, F1] <;> omega)
  refine WK [(6, AV.bool false)] [] 6 (by simp [F1]) (by simp [F1]) ?_
  simp only [Option.some.injEq] at hF
  subst hF
  refine AW.ret (hQ _ _ _ ?_ (matchO_0 ?_)).1
  ·simp [Try.f28, F1]
  ·simp [F1]
end Go.TF
