/- Walks: the Go text computes the Lean functions (printed by a program of our own). -/
import Derived.Test.YtmiimcogppdepaaHaPu
import Derived.Test.YtmiimcogppdepaaHaAbsT
import Derived.Test.YtmiimcogppdepaaHaWa0
import Derived.Test.YtmiimcogppdepaaHaWa1
import Derived.Test.YtmiimcogppdepaaHaWa2
set_option linter.unusedVariables false
set_option linter.unusedSimpArgs false
set_option maxRecDepth 100000
set_option maxHeartbeats 4000000
namespace Go.TF
open Go Go.Abs Go.Proofs Go.Proofs.YtmiimcogppdepaaHaT
theorem w_capacity_All (k : Nat) (v0 : Int) (v1 : (List api_Edge)) (v2 : (List Int)) (v3 : (List Int)) (v4 : (List Int)) (v5 : Int) (v6 : (List Int)) (hF : capacity_All k v0 v1 v2 v3 v4 v5 = some v6) :
  FCall Try.prog 22 [AV.agg [AV.int .i64 v0, AV.lst false false (List.map api_Edge.av v1), AV.lst false false (List.map (AV.int .i64) v2)], AV.agg [AV.lst false false (List.map (AV.int .i64) v3), AV.lst false false (List.map (AV.int .i64) v4), AV.int .i64 v5]] [] (AV.slc 0 0 1 v6.length false) [some (.cells (List.map (AV.int .i64) v6))] := by
 unfold capacity_All at hF
 refine EN Try.func22 ?_
 intro c0 w0 Q h0 hQ
 refine WK [(0, AV.agg [Iz v0, AV.lst false false (List.map api_Edge.av v1), Lz v2]), (1, AV.agg [Lz v3, Lz v4, Iz v5])] [] 0 (by simp) (by simp) ?_
 refine SQ [] [none, none, none] fun _ _ g r => ?_
 try simp
 and_intros <;> first | exact g _ (by kernel_rfl) | refine r _ _ _ ?_ | omega | (simp [maxLen] <;> omega)
 refine WK [(2, AV.ptr 0 0), (3, AV.ptr 1 0)] [(0, .cells [Iz v0, AV.lst false false (List.map api_Edge.av v1), Lz v2]), (1, .cells [Lz v3, Lz v4, Iz v5])] 2 (by simp) (by simp) ?_
 refine SQ [] [none, none, none, none, none, none, none, none] fun _ _ g r => ?_
 try simp
 and_intros
 try any_goals first | omega | (simp [maxLen] <;> omega)
 obtain ⟨v7, v8, v9, h1, hF⟩ := bnd3_elim hF
 refine AC (w_graph_Level_o k _ _ _ _ _ _ _ h1) (.cons (.same (by simp)) (.cons (.same (by simp)) .nil)) ?_
 try simp
 and_intros
 try any_goals first | omega | (simp [maxLen] <;> omega)
 obtain ⟨v10, h2, hF⟩ := bnd1_elim hF
 refine aCall_l (w_distance_All k _ _ _ _ _ h2) (by simp) [] [2] [] rfl (.cons (.agg (.cons (.same (by simp)) (.cons (.same (by simp)) (.cons (Coe.l (o := .grow (List.map (AV.int .i64) v9)) (by simp) rfl (by simp) (by simp [noIdsL]) (by simp) (by simp)) .nil)))) (.cons (.same (by simp)) .nil)) (by simp) (by decide) (by simp) (by simp) (.inr ⟨by simp, by simp⟩) (by simp) (by simp) ?_
 try simp
 and_intros <;> first | exact g _ (by kernel_rfl) | refine r _ _ _ ?_ | omega | (simp [maxLen] <;> omega)
 refine WK [(3, AV.ptr 1 0), (5, AV.slc 3 0 1 v10.length false)] [(1, .cells [Lz v3, Lz v4, Iz v5]), (3, .cells (List.map (AV.int .i64) v10))] 4 (by simp) (by simp) ?_
 refine AW.seq fun K109 hK109 => ?_
 refine SQ [] [none, none, none] fun _ _ g r => ?_
 try simp
 and_intros <;> first | exact g _ (by kernel_rfl) | refine r _ _ _ ?_ | omega | (simp [maxLen] <;> omega)
 refine WK [(3, AV.ptr 1 0), (5, AV.slc 3 0 1 v10.length false), (15, AV.slc 3 0 1 v10.length false), (16, Iz (v10.length : Int)), (17, Iz 0)] [(1, .cells [Lz v3, Lz v4, Iz v5]), (3, .cells (List.map (AV.int .i64) v10))] 4 (by simp) (by simp) ?_
 refine AW.block ?_
 refine RM h0 [(0, 1), (1, 3)] [(3, AV.ptr 0 0), (5, AV.slc 1 0 1 v10.length false), (15, AV.slc 1 0 1 v10.length false), (16, Iz (v10.length : Int)), (17, Iz 0)] [(0, .cells [Lz v3, Lz v4, Iz v5]), (1, .cells (List.map (AV.int .i64) v10))] 2 (by simp) (by simp) ?_
 refine AW.loopF (α := (Int × (List Int))) (fun n (v11, v12) => capacity_All.L1 k v3 v4 v5 v10 n v11 v12 = some v6) (fun (v11, v12) => [(3, AV.ptr 0 0), (5, AV.slc 1 0 1 v12.length false), (15, AV.slc 1 0 1 v12.length false), (16, Iz (v10.length : Int)), (17, Iz v11)]) (fun (v11, v12) => [(0, .cells [Lz v3, Lz v4, Iz v5]), (1, .cells (List.map (AV.int .i64) v12))]) 2 k ((0, v10)) hF (by simp) (by simp) (by simp) ?_
 rintro (_|n1) ⟨v11, v12⟩ hF K135 hK135
 ·try dsimp only at hF
  rw [capacity_All.L1] at hF; cases hF
 try dsimp only at hF
 rw [capacity_All.L1] at hF
 refine SQ [] [none] fun _ _ g r => ?_
 try simp
 and_intros <;> first | exact g _ (by kernel_rfl) | refine r _ _ _ ?_ | omega | (simp [maxLen] <;> omega)
 refine WK [(3, AV.ptr 0 0), (5, AV.slc 1 0 1 v12.length false), (15, AV.slc 1 0 1 v12.length false), (16, Iz (v10.length : Int)), (17, Iz v11), (18, AV.bool (decide (v11 < (v10.length : Int))))] [(0, .cells [Lz v3, Lz v4, Iz v5]), (1, .cells (List.map (AV.int .i64) v12))] 2 (by simp) (by simp) ?_
 refine AW.seq fun K137 hK137 => ?_
 by_cases h3 : v11 < (v10.length : Int)
 ·replace hF := ite_t h3 hF
  have h3_ := h3
  try simp at h3_
  refine CT (by simp [h3, h3_] <;> omega) ?_
  refine AW.skip ?_
  refine hK137 _ _ _ ?_
  refine AW.seq fun K140 hK140 => ?_
  refine AW.block ?_
  refine SQ [] [none, none, none, none, none] fun _ _ g r => ?_
  obtain ⟨⟨h4, h5⟩, hF⟩ := chk_elim hF
  have h5_ := ne_of_lt h5
  obtain ⟨v13, h6, h7, h8, hF⟩ := idx_elim hF
  have h8_ := get_of h8
  try simp at h8_
  have h7_ := h7
  try simp at h7_
  have F1 := And.intro h3 (And.intro h3_ (And.intro h4 (And.intro h5 (And.intro h5_ (And.intro h6 (And.intro h7 (And.intro h8 (And.intro h8_ h7_))))))))
  try simp [F1]
  and_intros <;> first | exact g _ (by kernel_rfl) | refine r _ _ _ ?_ | omega | (simp [maxLen, F1] <;> omega)
  refine WK [(3, AV.ptr 0 0), (5, AV.slc 1 0 1 v12.length false), (6, Iz v11), (7, Iz v13), (15, AV.slc 1 0 1 v12.length false), (16, Iz (v10.length : Int)), (17, Iz v11)] [(0, .cells [Lz v3, Lz v4, Iz v5]), (1, .cells (List.map (AV.int .i64) v12))] 2 (by simp [F1]) (by simp [F1]) ?_
  refine RG [] [none, none, none, none, none, none, none] fun _ _ g r => ?_
  try simp [F1]
  and_intros
  try any_goals first | omega | (simp [maxLen, F1] <;> omega)
  obtain ⟨v14, h9, hF⟩ := bnd1_elim hF
  refine AC (w_capacity_Of k _ _ _ _ _ h9) (.cons (.same (by simp [F1])) (.cons (.same (by simp [F1])) .nil)) ?_
  obtain ⟨⟨h10, h11⟩, hF⟩ := chk_elim hF
  have h11_ := ne_of_lt h11
  have F2 := And.intro F1 (And.intro h10 (And.intro h11 h11_))
  try simp [F2]
  and_intros <;> first | exact g _ (by kernel_rfl) | refine r _ _ _ ?_ | omega | (simp [maxLen, F2] <;> omega)
  refine hK140 _ _ _ ?_
  refine WK [(3, AV.ptr 0 0), (5, AV.slc 1 0 1 ((v12.set (v11).toNat v14).length) false), (15, AV.slc 1 0 1 ((v12.set (v11).toNat v14).length) false), (16, Iz (v10.length : Int)), (17, Iz v11)] [(0, .cells [Lz v3, Lz v4, Iz v5]), (1, .cells (List.map (AV.int .i64) (v12.set (v11).toNat v14)))] 2 (by simp [F2]) (by simp [F2]) ?_
  refine RG [] [none, none] fun _ _ g r => ?_
  try simp [F2]
  and_intros <;> first | exact g _ (by kernel_rfl) | refine r _ _ _ ?_ | omega | (simp [maxLen, F2] <;> omega)
  refine hK135 _ _ _ ?_
  exact NX (k' := n1) ((IntKind.wrap .i64 (v11 + 1), v12.set (v11).toNat v14)) hF (by simp [F2]) (by simp [F2])
 ·replace hF := ite_f h3 hF
  have h3_ := h3
  try simp at h3_
  refine CF (by simp [h3, h3_] <;> omega) ?_
  refine AW.exit ?_
  try simp
  refine hK109 _ _ _ ?_
  refine SQ [] [none, none] fun _ _ g r => ?_
  try simp [h3, h3_]
  and_intros <;> first | exact g _ (by kernel_rfl) | refine r _ _ _ ?_ | omega | (simp [h3, h3_, maxLen] <;> omega)
  refine RM h0 [(0, 1)] [(4, AV.slc 0 0 1 v12.length false)] [(0, .cells (List.map (AV.int .i64) v12))] 1 (by simp [h3, h3_]) (by simp [h3, h3_]) ?_
  simp only [Option.some.injEq] at hF
  subst hF
  refine AW.ret (hQ _ _ _ ?_ (matchO_0 ?_)).1
  ·simp [Try.f22, h3, h3_]
  ·simp [h3, h3_]
theorem w_split_Network_1 (k : Nat) (v0 : Int) (v1 : Int) (v2 : Int) (v3 : Int) (v4 : (List api_Arc)) (v5 : (List api_Arc)) (hF : split_Network_1 k v0 v1 v2 v3 v4 = some v5) :
  FCall Try.prog 52 [AV.int .i64 v0, AV.int .i64 v1, AV.int .i64 v2, AV.ptr 0 0] [.cells [AV.int .i64 v3, AV.slc 1 0 3 v4.length false], .grow (flatA (List.map api_Arc.av v4))] (AV.tup []) [some (.cells [AV.int .i64 v3, AV.slc 2 0 3 v5.length false]), none, some (.grow (flatA (List.map api_Arc.av v5)))] := by
 unfold split_Network_1 at hF
 refine EN Try.func52 ?_
 intro c0 w0 Q h0 hQ
 refine WK [(0, Iz v0), (1, Iz v1), (2, Iz v2), (3, AV.ptr 0 0)] [(0, .cells [Iz v3, AV.slc 1 0 3 v4.length false]), (1, .grow (flatA (List.map api_Arc.av v4)))] 2 (by simp) (by simp) ?_
 refine RG [] [none, none, none, none, none, none, none, none, none, none] fun _ _ g r => ?_
 obtain ⟨h1, hF⟩ := chk_elim hF
 have h1_ := h1
 try simp at h1_
 try simp [h1]
 and_intros <;> first | exact g _ (by kernel_rfl) | refine r _ _ _ ?_ | omega | (simp [h1, maxLen] <;> omega)
 simp only [Option.some.injEq] at hF
 subst hF
 refine (hQ _ _ _ ?_ (matchO_0 ?_)).2
 ·simp [Try.f52, h1]
 ·simp [h1]
theorem w_split_Exit (k : Nat) (v0 : Int) (v1 : Int) (hF : split_Exit k v0 = some v1) :
  FCall Try.prog 31 [AV.int .i64 v0] [] (AV.int .i64 v1) [] := by
 unfold split_Exit at hF
 refine EN Try.func31 ?_
 intro c0 w0 Q h0 hQ
 refine WK [(0, Iz v0)] [] 0 (by simp) (by simp) ?_
 refine SQ [] [none] fun _ _ g r => ?_
 try simp
 and_intros <;> first | exact g _ (by kernel_rfl) | refine r _ _ _ ?_ | omega | (simp [maxLen] <;> omega)
 refine WK [(0, Iz v0)] [] 0 (by simp) (by simp) ?_
 refine SQ [] [none, none, none, none] fun _ _ g r => ?_
 try simp
 and_intros
 try any_goals first | omega | (simp [maxLen] <;> omega)
 obtain ⟨v2, h1, hF⟩ := bnd1_elim hF
 refine AC (w_split_Entry k _ _ h1) (.cons (.same (by simp)) .nil) ?_
 try simp
 and_intros <;> first | exact g _ (by kernel_rfl) | refine r _ _ _ ?_ | omega | (simp [maxLen] <;> omega)
 refine WK [(2, Iz (IntKind.wrap .i64 (v2 + 1)))] [] 0 (by simp) (by simp) ?_
 simp only [Option.some.injEq] at hF
 subst hF
 refine AW.ret (hQ _ _ _ ?_ (matchO_0 ?_)).1
 ·simp [Try.f31]
 ·simp
theorem w_split_Network (k : Nat) (v0 : Int) (v1 : (List api_Edge)) (v2 : (List Int)) (v3 : (List Int)) (v4 : (List Int)) (v5 : Int) (v6 : (List Int)) (v7 : Int) (v8 : (List api_Arc)) (v9 : Int) (hF : split_Network k v0 v1 v2 v3 v4 v5 v6 = some (v7, v8, v9)) :
  FCall Try.prog 33 [AV.agg [AV.int .i64 v0, AV.lst false false (List.map api_Edge.av v1), AV.lst false false (List.map (AV.int .i64) v2)], AV.agg [AV.lst false false (List.map (AV.int .i64) v3), AV.lst false false (List.map (AV.int .i64) v4), AV.int .i64 v5], AV.lst false false (List.map (AV.int .i64) v6)] [] (AV.tup [AV.agg [AV.int .i64 v7, AV.slc 0 0 3 v8.length false], AV.int .i64 v9]) [some (.grow (flatA (List.map api_Arc.av v8)))] := by
 unfold split_Network at hF
 refine EN Try.func33 ?_
 intro c0 w0 Q h0 hQ
 refine WK [(0, AV.agg [Iz v0, AV.lst false false (List.map api_Edge.av v1), Lz v2]), (1, AV.agg [Lz v3, Lz v4, Iz v5]), (2, Lz v6)] [] 0 (by simp) (by simp) ?_
 refine SQ [] [none, none, none, none] fun _ _ g r => ?_
 try simp
 and_intros <;> first | exact g _ (by kernel_rfl) | refine r _ _ _ ?_ | omega | (simp [maxLen] <;> omega)
 refine WK [(2, Lz v6), (3, AV.ptr 0 0), (4, AV.ptr 1 0), (6, AV.ptr 2 0)] [(0, .cells [Iz v0, AV.lst false false (List.map api_Edge.av v1), Lz v2]), (1, .cells [Lz v3, Lz v4, Iz v5]), (2, .cells [Iz 0, AV.lst true true (List.map api_Arc.av ([] : List api_Arc))])] 3 (by simp) (by simp) ?_
 refine AW.seq fun K362 hK362 => ?_
 refine SQ [] [none, none, none, none] fun _ _ g r => ?_
 try simp
 and_intros
 try any_goals first | omega | (simp [maxLen] <;> omega)
 obtain ⟨v10, h1, hF⟩ := bnd1_elim hF
 refine AC (w_capacity_Check k _ _ _ _ _ _ _ h1) (.cons (.same (by simp)) (.cons (.same (by simp)) .nil)) ?_
 try simp
 and_intros <;> first | exact g _ (by kernel_rfl) | refine r _ _ _ ?_ | omega | (simp [maxLen] <;> omega)
 refine WK [(2, Lz v6), (3, AV.ptr 0 0), (4, AV.ptr 1 0), (6, AV.ptr 2 0), (8, Iz v10)] [(0, .cells [Iz v0, AV.lst false false (List.map api_Edge.av v1), Lz v2]), (1, .cells [Lz v3, Lz v4, Iz v5]), (2, .cells [Iz 0, AV.lst true true (List.map api_Arc.av ([] : List api_Arc))])] 3 (by simp) (by simp) ?_
 refine SQ [] [none, none] fun _ _ g r => ?_
 try simp
 and_intros <;> first | exact g _ (by kernel_rfl) | refine r _ _ _ ?_ | omega | (simp [maxLen] <;> omega)
 refine WK [(2, Lz v6), (3, AV.ptr 0 0), (4, AV.ptr 1 0), (6, AV.ptr 2 0), (8, Iz v10), (24, AV.bool (v10 != 0))] [(0, .cells [Iz v0, AV.lst false false (List.map api_Edge.av v1), Lz v2]), (1, .cells [Lz v3, Lz v4, Iz v5]), (2, .cells [Iz 0, AV.lst true true (List.map api_Arc.av ([] : List api_Arc))])] 3 (by simp) (by simp) ?_
 by_cases h2 : v10 ≠ 0
 ·replace hF := ite_t h2 hF
  have h2_ := eqb_f h2
  have h2__ := neb_t h2
  have F1 := And.intro h2 (And.intro h2_ h2__)
  refine CT (by simp [F1] <;> omega) ?_
  refine SQ [] [none, none, none, none] fun _ _ g r => ?_
  try simp [F1]
  and_intros <;> first | exact g _ (by kernel_rfl) | refine r _ _ _ ?_ | omega | (simp [maxLen, F1] <;> omega)
  refine WK [(6, AV.ptr 2 0), (7, Iz v10)] [(2, .cells [Iz 0, AV.lst true true (List.map api_Arc.av ([] : List api_Arc))])] 3 (by simp [F1]) (by simp [F1]) ?_
  refine AW.ownC 2 1 3 true (cs := [Iz 0, AV.lst true true (List.map api_Arc.av ([] : List api_Arc))]) (by simp [F1]) (by simp) ?_
  refine RM h0 [(0, 3), (1, 2)] [(6, AV.ptr 1 0), (7, Iz v10)] [(0, .grow (flatA (List.map api_Arc.av ([] : List api_Arc)))), (1, .cells [Iz 0, AV.slc 0 0 3 (([] : List api_Arc).length) false])] 2 (by simp [F1]) (by simp [F1]) ?_
  simp only [Option.some.injEq, Prod.mk.injEq] at hF
  obtain ⟨e0, e1, e2⟩ := hF
  subst e0 e1 e2
  refine AW.ret (hQ _ _ _ ?_ (matchO_0 ?_)).1
  ·simp [Try.f33, F1]
  ·simp [F1]
 ·replace hF := ite_f h2 hF
  have h2q : v10 = 0 := Classical.not_not.1 h2
  have h2_ := eqb_t h2q
  have h2__ := neb_f h2q
  have F2 := And.intro h2_ (And.intro h2__ h2q)
  refine CF (by simp [F2] <;> omega) ?_
  refine AW.skip ?_
  refine hK362 _ _ _ ?_
  refine AW.seq fun K368 hK368 => ?_
  refine SQ [] [none, none, none, none, none, none] fun _ _ g r => ?_
  try simp [F2]
  and_intros
  try any_goals first | omega | (simp [maxLen, F2] <;> omega)
  obtain ⟨v11, h3, hF⟩ := bnd1_elim hF
  refine AC (w_lists_Rising k _ _ _ _ h3) (.cons (.same (by simp [F2])) (.cons (.same (by simp [F2])) (.cons (.same (by simp [F2])) .nil))) ?_
  try simp [F2]
  and_intros <;> first | exact g _ (by kernel_rfl) | refine r _ _ _ ?_ | omega | (simp [maxLen, F2] <;> omega)
  refine WK [(2, Lz v6), (3, AV.ptr 0 0), (4, AV.ptr 1 0), (6, AV.ptr 2 0), (32, AV.bool (!v11))] [(0, .cells [Iz v0, AV.lst false false (List.map api_Edge.av v1), Lz v2]), (1, .cells [Lz v3, Lz v4, Iz v5]), (2, .cells [Iz 0, AV.lst true true (List.map api_Arc.av ([] : List api_Arc))])] 3 (by simp [F2]) (by simp [F2]) ?_
  by_cases h4 : (!v11) = true
  ·replace hF := ite_t h4 hF
   have h4_ := h4
   try simp at h4_
   have F3 := And.intro F2 (And.intro h4 h4_)
   refine CT (by simp [F3] <;> omega) ?_
   refine SQ [] [none, none, none] fun _ _ g r => ?_
   try simp [F3]
   and_intros <;> first | exact g _ (by kernel_rfl) | refine r _ _ _ ?_ | omega | (simp [maxLen, F3] <;> omega)
   refine WK [(6, AV.ptr 2 0), (7, Iz 4)] [(2, .cells [Iz 0, AV.lst true true (List.map api_Arc.av ([] : List api_Arc))])] 3 (by simp [F3]) (by simp [F3]) ?_
   refine AW.ownC 2 1 3 true (cs := [Iz 0, AV.lst true true (List.map api_Arc.av ([] : List api_Arc))]) (by simp [F3]) (by simp) ?_
   refine RM h0 [(0, 3), (1, 2)] [(6, AV.ptr 1 0), (7, Iz 4)] [(0, .grow (flatA (List.map api_Arc.av ([] : List api_Arc)))), (1, .cells [Iz 0, AV.slc 0 0 3 (([] : List api_Arc).length) false])] 2 (by simp [F3]) (by simp [F3]) ?_
   simp only [Option.some.injEq, Prod.mk.injEq] at hF
   obtain ⟨e0, e1, e2⟩ := hF
   subst e0 e1 e2
   refine AW.ret (hQ _ _ _ ?_ (matchO_0 ?_)).1
   ·simp [Try.f33, F3]
   ·simp [F3]
  ·replace hF := ite_f h4 hF
   have h4_ := h4
   try simp at h4_
   have F4 := And.intro F2 (And.intro h4 h4_)
   refine CF (by simp [F4] <;> omega) ?_
   refine AW.skip ?_
   refine hK368 _ _ _ ?_
   refine SQ [] [none, none, none, none, none, none] fun _ _ g r => ?_
   try simp [F4]
   and_intros
   try any_goals first | omega | (simp [maxLen, F4] <;> omega)
   obtain ⟨v12, h5, hF⟩ := bnd1_elim hF
   refine AC (w_split_Entry k _ _ h5) (.cons (.same (by simp [F4])) .nil) ?_
   try simp [F4]
   and_intros <;> first | exact g _ (by kernel_rfl) | refine r _ _ _ ?_ | omega | (simp [maxLen, F4] <;> omega)
   refine WK [(2, Lz v6), (3, AV.ptr 0 0), (4, AV.ptr 1 0), (6, AV.ptr 2 0), (9, AV.ptr 3 0)] [(0, .cells [Iz v0, AV.lst false false (List.map api_Edge.av v1), Lz v2]), (1, .cells [Lz v3, Lz v4, Iz v5]), (2, .cells [Iz 0, AV.lst true true (List.map api_Arc.av ([] : List api_Arc))]), (3, .cells [Iz v12, AV.lst true true (List.map api_Arc.av ([] : List api_Arc))])] 4 (by simp [F4]) (by simp [F4]) ?_
   refine SQ [] [none, none] fun _ _ g r => ?_
   try simp [F4]
   and_intros <;> first | exact g _ (by kernel_rfl) | refine r _ _ _ ?_ | omega | (simp [maxLen, F4] <;> omega)
   refine WK [(2, Lz v6), (3, AV.ptr 0 0), (4, AV.ptr 1 0), (6, AV.ptr 2 0), (9, AV.ptr 3 0), (10, AV.fn 52 [AV.ptr 3 0])] [(0, .cells [Iz v0, AV.lst false false (List.map api_Edge.av v1), Lz v2]), (1, .cells [Lz v3, Lz v4, Iz v5]), (2, .cells [Iz 0, AV.lst true true (List.map api_Arc.av ([] : List api_Arc))]), (3, .cells [Iz v12, AV.lst true true (List.map api_Arc.av ([] : List api_Arc))])] 4 (by simp [F4]) (by simp [F4]) ?_
   refine SQ [] [none, none, none, none] fun _ _ g r => ?_
   try simp [F4]
   and_intros
   try any_goals first | omega | (simp [maxLen, F4] <;> omega)
   obtain ⟨v13, h6, hF⟩ := bnd1_elim hF
   refine AC (w_capacity_All k _ _ _ _ _ _ _ h6) (.cons (.same (by simp [F4])) (.cons (.same (by simp [F4])) .nil)) ?_
   try simp [F4]
   and_intros <;> first | exact g _ (by kernel_rfl) | refine r _ _ _ ?_ | omega | (simp [maxLen, F4] <;> omega)
   refine WK [(2, Lz v6), (3, AV.ptr 0 0), (4, AV.ptr 1 0), (6, AV.ptr 2 0), (9, AV.ptr 3 0), (10, AV.fn 52 [AV.ptr 3 0]), (11, AV.slc 4 0 1 v13.length false)] [(0, .cells [Iz v0, AV.lst false false (List.map api_Edge.av v1), Lz v2]), (1, .cells [Lz v3, Lz v4, Iz v5]), (2, .cells [Iz 0, AV.lst true true (List.map api_Arc.av ([] : List api_Arc))]), (3, .cells [Iz v12, AV.lst true true (List.map api_Arc.av ([] : List api_Arc))]), (4, .cells (List.map (AV.int .i64) v13))] 5 (by simp [F4]) (by simp [F4]) ?_
   refine AW.frz 4 (o := .cells (List.map (AV.int .i64) v13)) (by simp [F4]) rfl [(11, Lz v13)] [] ⟨(.l (by simp) (by simp) (by simp) (by simp)), trivial⟩ trivial ?_
   refine WK [(2, Lz v6), (3, AV.ptr 0 0), (4, AV.ptr 1 0), (6, AV.ptr 2 0), (9, AV.ptr 3 0), (10, AV.fn 52 [AV.ptr 3 0]), (11, Lz v13)] [(0, .cells [Iz v0, AV.lst false false (List.map api_Edge.av v1), Lz v2]), (1, .cells [Lz v3, Lz v4, Iz v5]), (2, .cells [Iz 0, AV.lst true true (List.map api_Arc.av ([] : List api_Arc))]), (3, .cells [Iz v12, AV.lst true true (List.map api_Arc.av ([] : List api_Arc))])] 5 (by simp [F4]) (by simp [F4]) ?_
   refine AW.seq fun K416 hK416 => ?_
   refine SQ [] [none, none, none, none] fun _ _ g r => ?_
   try simp [F4]
   and_intros <;> first | exact g _ (by kernel_rfl) | refine r _ _ _ ?_ | omega | (simp [maxLen, F4] <;> omega)
   refine WK [(2, Lz v6), (3, AV.ptr 0 0), (4, AV.ptr 1 0), (6, AV.ptr 2 0), (9, AV.ptr 3 0), (10, AV.fn 52 [AV.ptr 3 0]), (11, Lz v13), (43, Lz v3), (44, Iz (v3.length : Int)), (45, Iz 0)] [(0, .cells [Iz v0, AV.lst false false (List.map api_Edge.av v1), Lz v2]), (1, .cells [Lz v3, Lz v4, Iz v5]), (2, .cells [Iz 0, AV.lst true true (List.map api_Arc.av ([] : List api_Arc))]), (3, .cells [Iz v12, AV.lst true true (List.map api_Arc.av ([] : List api_Arc))])] 5 (by simp [F4]) (by simp [F4]) ?_
   refine AW.block ?_
   refine AW.ownC 2 1 3 true (cs := [Iz 0, AV.lst true true (List.map api_Arc.av ([] : List api_Arc))]) (by simp [F4]) (by simp) ?_
   refine AW.ownC 3 1 3 true (cs := [Iz v12, AV.lst true true (List.map api_Arc.av ([] : List api_Arc))]) (by simp [F4]) (by simp) ?_
   refine RM h0 [(0, 0), (1, 1), (2, 2), (3, 5), (4, 3), (5, 6)] [(2, Lz v6), (3, AV.ptr 0 0), (4, AV.ptr 1 0), (6, AV.ptr 2 0), (9, AV.ptr 4 0), (10, AV.fn 52 [AV.ptr 4 0]), (11, Lz v13), (43, Lz v3), (44, Iz (v3.length : Int)), (45, Iz 0)] [(0, .cells [Iz v0, AV.lst false false (List.map api_Edge.av v1), Lz v2]), (1, .cells [Lz v3, Lz v4, Iz v5]), (2, .cells [Iz 0, AV.slc 3 0 3 (([] : List api_Arc).length) false]), (3, .grow (flatA (List.map api_Arc.av ([] : List api_Arc)))), (4, .cells [Iz v12, AV.slc 5 0 3 (([] : List api_Arc).length) false]), (5, .grow (flatA (List.map api_Arc.av ([] : List api_Arc))))] 6 (by simp [F4]) (by simp [F4]) ?_
   refine AW.loopF (α := (Int × (List api_Arc))) (fun n (v14, v15) => split_Network.L1 k v0 v1 v2 v3 v5 v6 v12 v13 n v14 v15 = some (v7, v8, v9)) (fun (v14, v15) => [(2, Lz v6), (3, AV.ptr 0 0), (4, AV.ptr 1 0), (6, AV.ptr 2 0), (9, AV.ptr 4 0), (10, AV.fn 52 [AV.ptr 4 0]), (11, Lz v13), (43, Lz v3), (44, Iz (v3.length : Int)), (45, Iz v14)]) (fun (v14, v15) => [(0, .cells [Iz v0, AV.lst false false (List.map api_Edge.av v1), Lz v2]), (1, .cells [Lz v3, Lz v4, Iz v5]), (2, .cells [Iz 0, AV.slc 3 0 3 (([] : List api_Arc).length) false]), (3, .grow (flatA (List.map api_Arc.av ([] : List api_Arc)))), (4, .cells [Iz v12, AV.slc 5 0 3 v15.length false]), (5, .grow (flatA (List.map api_Arc.av v15)))]) 6 k ((0, ([] : List api_Arc))) hF (by simp [F4]) (by simp [F4]) (by simp) ?_
   rintro (_|n1) ⟨v14, v15⟩ hF K448 hK448
   ·try dsimp only at hF
    rw [split_Network.L1] at hF; cases hF
   try dsimp only at hF
   rw [split_Network.L1] at hF
   refine SQ [] [none] fun _ _ g r => ?_
   try simp [F4]
   and_intros <;> first | exact g _ (by kernel_rfl) | refine r _ _ _ ?_ | omega | (simp [maxLen, F4] <;> omega)
   refine WK [(2, Lz v6), (3, AV.ptr 0 0), (4, AV.ptr 1 0), (6, AV.ptr 2 0), (9, AV.ptr 4 0), (10, AV.fn 52 [AV.ptr 4 0]), (11, Lz v13), (43, Lz v3), (44, Iz (v3.length : Int)), (45, Iz v14), (46, AV.bool (decide (v14 < (v3.length : Int))))] [(0, .cells [Iz v0, AV.lst false false (List.map api_Edge.av v1), Lz v2]), (1, .cells [Lz v3, Lz v4, Iz v5]), (2, .cells [Iz 0, AV.slc 3 0 3 (([] : List api_Arc).length) false]), (3, .grow (flatA (List.map api_Arc.av ([] : List api_Arc)))), (4, .cells [Iz v12, AV.slc 5 0 3 v15.length false]), (5, .grow (flatA (List.map api_Arc.av v15)))] 6 (by simp [F4]) (by simp [F4]) ?_
   refine AW.seq fun K450 hK450 => ?_
   by_cases h7 : v14 < (v3.length : Int)
   ·replace hF := ite_t h7 hF
    have h7_ := h7
    try simp at h7_
    have F5 := And.intro F4 (And.intro h7 h7_)
    refine CT (by simp [F5] <;> omega) ?_
    refine AW.skip ?_
    refine hK450 _ _ _ ?_
    refine AW.midF (α := (List api_Arc)) (fun v16 => split_Network.J2 k v14 (fun v14_ v15_ => split_Network.L1 k v0 v1 v2 v3 v5 v6 v12 v13 n1 v14_ v15_) v16 = some (v7, v8, v9)) (fun v16 => [(2, Lz v6), (3, AV.ptr 0 0), (4, AV.ptr 1 0), (6, AV.ptr 2 0), (9, AV.ptr 4 0), (10, AV.fn 52 [AV.ptr 4 0]), (11, Lz v13), (43, Lz v3), (44, Iz (v3.length : Int)), (45, Iz v14)]) (fun v16 => [(0, .cells [Iz v0, AV.lst false false (List.map api_Edge.av v1), Lz v2]), (1, .cells [Lz v3, Lz v4, Iz v5]), (2, .cells [Iz 0, AV.slc 3 0 3 (([] : List api_Arc).length) false]), (3, .grow (flatA (List.map api_Arc.av ([] : List api_Arc)))), (4, .cells [Iz v12, AV.slc 5 0 3 v16.length false]), (5, .grow (flatA (List.map api_Arc.av v16)))]) 6 (fun K455 hK455 => ?_) ?_
    ·refine AW.block ?_
     refine SQ [] [none, none, none] fun _ _ g r => ?_
     obtain ⟨v17, h8, h9, h10, hF⟩ := idx_elim hF
     have h10_ := get_of h10
     try simp at h10_
     have h9_ := h9
     try simp at h9_
     have F6 := And.intro F5 (And.intro h8 (And.intro h9 (And.intro h10 (And.intro h10_ h9_))))
     try simp [F6]
     and_intros <;> first | exact g _ (by kernel_rfl) | refine r _ _ _ ?_ | omega | (simp [maxLen, F6] <;> omega)
     refine WK [(2, Lz v6), (3, AV.ptr 0 0), (4, AV.ptr 1 0), (6, AV.ptr 2 0), (9, AV.ptr 4 0), (10, AV.fn 52 [AV.ptr 4 0]), (11, Lz v13), (13, Iz v17), (43, Lz v3), (44, Iz (v3.length : Int)), (45, Iz v14)] [(0, .cells [Iz v0, AV.lst false false (List.map api_Edge.av v1), Lz v2]), (1, .cells [Lz v3, Lz v4, Iz v5]), (2, .cells [Iz 0, AV.slc 3 0 3 (([] : List api_Arc).length) false]), (3, .grow (flatA (List.map api_Arc.av ([] : List api_Arc)))), (4, .cells [Iz v12, AV.slc 5 0 3 v15.length false]), (5, .grow (flatA (List.map api_Arc.av v15)))] 6 (by simp [F6]) (by simp [F6]) ?_
     refine SQ [] [none, none, none, none, none] fun _ _ g r => ?_
     obtain ⟨v18, h11, h12, h13, hF⟩ := idx_elim hF
     have h13_ := get_of h13
     try simp at h13_
     have h12_ := h12
     try simp at h12_
     have F7 := And.intro F6 (And.intro h11 (And.intro h12 (And.intro h13 (And.intro h13_ h12_))))
     try simp [F7]
     and_intros <;> first | exact g _ (by kernel_rfl) | refine r _ _ _ ?_ | omega | (simp [maxLen, F7] <;> omega)
     refine WK [(2, Lz v6), (3, AV.ptr 0 0), (4, AV.ptr 1 0), (6, AV.ptr 2 0), (9, AV.ptr 4 0), (10, AV.fn 52 [AV.ptr 4 0]), (11, Lz v13), (13, Iz v17), (43, Lz v3), (44, Iz (v3.length : Int)), (45, Iz v14), (53, AV.bool (decide (0 < v18)))] [(0, .cells [Iz v0, AV.lst false false (List.map api_Edge.av v1), Lz v2]), (1, .cells [Lz v3, Lz v4, Iz v5]), (2, .cells [Iz 0, AV.slc 3 0 3 (([] : List api_Arc).length) false]), (3, .grow (flatA (List.map api_Arc.av ([] : List api_Arc)))), (4, .cells [Iz v12, AV.slc 5 0 3 v15.length false]), (5, .grow (flatA (List.map api_Arc.av v15)))] 6 (by simp [F7]) (by simp [F7]) ?_
     by_cases h14 : 0 < v18
     ·replace hF := ite_t h14 hF
      have h14_ := h14
      try simp at h14_
      have F8 := And.intro F7 (And.intro h14 h14_)
      refine CT (by simp [F8] <;> omega) ?_
      refine RG [] [none, none, none, none, none, none, none, none] fun _ _ g r => ?_
      try simp [F8]
      and_intros
      try any_goals first | omega | (simp [maxLen, F8] <;> omega)
      obtain ⟨v19, h15, hF⟩ := bnd1_elim hF
      refine AC (w_split_Entry k _ _ h15) (.cons (.same (by simp [F8])) .nil) ?_
      try simp [F8]
      and_intros
      try any_goals first | omega | (simp [maxLen, F8] <;> omega)
      obtain ⟨v20, h16, hF⟩ := bnd1_elim hF
      refine aCall_l (w_split_Network_1 k _ _ _ _ _ _ h16) (by simp) [4, 5] [] [4, 5] rfl (.cons (.same (by simp [F8])) (.cons (.same (by simp [F8])) (.cons (.same (by simp [F8])) (.cons (.same (by simp [F8])) .nil)))) (by simp [F8]) (by decide) (by simp) (by simp) (.inl rfl) (by simp) (by simp) ?_
      try simp [F8]
      and_intros <;> first | exact g _ (by kernel_rfl) | refine r _ _ _ ?_ | omega | (simp [maxLen, F8] <;> omega)
      refine hK455 _ _ _ ?_
      refine RN h0 [(0, 0), (1, 1), (2, 2), (3, 3), (4, 4), (5, 6)] [(2, Lz v6), (3, AV.ptr 0 0), (4, AV.ptr 1 0), (6, AV.ptr 2 0), (9, AV.ptr 4 0), (10, AV.fn 52 [AV.ptr 4 0]), (11, Lz v13), (43, Lz v3), (44, Iz (v3.length : Int)), (45, Iz v14)] [(0, .cells [Iz v0, AV.lst false false (List.map api_Edge.av v1), Lz v2]), (1, .cells [Lz v3, Lz v4, Iz v5]), (2, .cells [Iz 0, AV.slc 3 0 3 (([] : List api_Arc).length) false]), (3, .grow (flatA (List.map api_Arc.av ([] : List api_Arc)))), (4, .cells [Iz v12, AV.slc 5 0 3 v20.length false]), (5, .grow (flatA (List.map api_Arc.av v20)))] 6 (by simp [F8]) (by simp [F8]) ?_
      exact JN (v20) hF (by simp [F8]) (by simp [F8])
     ·replace hF := ite_f h14 hF
      have h14_ := h14
      try simp at h14_
      have F9 := And.intro F7 (And.intro h14 h14_)
      refine CF (by simp [F9] <;> omega) ?_
      refine AW.skip ?_
      refine hK455 _ _ _ ?_
      exact JN (v15) hF (by simp [F9]) (by simp [F9])
    ·rintro v16 hF
     try dsimp only at hF
     unfold split_Network.J2 at hF
     refine RG [] [none, none] fun _ _ g r => ?_
     try simp [F5]
     and_intros <;> first | exact g _ (by kernel_rfl) | refine r _ _ _ ?_ | omega | (simp [maxLen, F5] <;> omega)
     refine hK448 _ _ _ ?_
     exact NX (k' := n1) ((IntKind.wrap .i64 (v14 + 1), v16)) hF (by simp [F5]) (by simp [F5])
   ·replace hF := ite_f h7 hF
    have h7_ := h7
    try simp at h7_
    have F10 := And.intro F4 (And.intro h7 h7_)
    refine CF (by simp [F10] <;> omega) ?_
    refine AW.exit ?_
    try simp
    refine hK416 _ _ _ ?_
    refine AW.seq fun K501 hK501 => ?_
    refine SQ [] [none, none, none] fun _ _ g r => ?_
    try simp [F10]
    and_intros <;> first | exact g _ (by kernel_rfl) | refine r _ _ _ ?_ | omega | (simp [maxLen, F10] <;> omega)
    refine WK [(2, Lz v6), (3, AV.ptr 0 0), (4, AV.ptr 1 0), (6, AV.ptr 2 0), (9, AV.ptr 4 0), (10, AV.fn 52 [AV.ptr 4 0]), (11, Lz v13), (63, Lz v13), (64, Iz (v13.length : Int)), (65, Iz 0)] [(0, .cells [Iz v0, AV.lst false false (List.map api_Edge.av v1), Lz v2]), (1, .cells [Lz v3, Lz v4, Iz v5]), (2, .cells [Iz 0, AV.slc 3 0 3 (([] : List api_Arc).length) false]), (3, .grow (flatA (List.map api_Arc.av ([] : List api_Arc)))), (4, .cells [Iz v12, AV.slc 5 0 3 v15.length false]), (5, .grow (flatA (List.map api_Arc.av v15)))] 6 (by simp [F10]) (by simp [F10]) ?_
    refine AW.block ?_
    refine AW.loopF (α := (Int × (List api_Arc))) (fun n (v21, v22) => split_Network.L3 k v0 v1 v2 v5 v6 v12 v13 n v21 v22 = some (v7, v8, v9)) (fun (v21, v22) => [(2, Lz v6), (3, AV.ptr 0 0), (4, AV.ptr 1 0), (6, AV.ptr 2 0), (9, AV.ptr 4 0), (10, AV.fn 52 [AV.ptr 4 0]), (11, Lz v13), (63, Lz v13), (64, Iz (v13.length : Int)), (65, Iz v21)]) (fun (v21, v22) => [(0, .cells [Iz v0, AV.lst false false (List.map api_Edge.av v1), Lz v2]), (1, .cells [Lz v3, Lz v4, Iz v5]), (2, .cells [Iz 0, AV.slc 3 0 3 (([] : List api_Arc).length) false]), (3, .grow (flatA (List.map api_Arc.av ([] : List api_Arc)))), (4, .cells [Iz v12, AV.slc 5 0 3 v22.length false]), (5, .grow (flatA (List.map api_Arc.av v22)))]) 6 k ((0, v15)) hF (by simp [F10]) (by simp [F10]) (by simp) ?_
    rintro (_|n3) ⟨v21, v22⟩ hF K533 hK533
    ·try dsimp only at hF
     rw [split_Network.L3] at hF; cases hF
    try dsimp only at hF
    rw [split_Network.L3] at hF
    refine SQ [] [none] fun _ _ g r => ?_
    try simp [F10]
    and_intros <;> first | exact g _ (by kernel_rfl) | refine r _ _ _ ?_ | omega | (simp [maxLen, F10] <;> omega)
    refine WK [(2, Lz v6), (3, AV.ptr 0 0), (4, AV.ptr 1 0), (6, AV.ptr 2 0), (9, AV.ptr 4 0), (10, AV.fn 52 [AV.ptr 4 0]), (11, Lz v13), (63, Lz v13), (64, Iz (v13.length : Int)), (65, Iz v21), (66, AV.bool (decide (v21 < (v13.length : Int))))] [(0, .cells [Iz v0, AV.lst false false (List.map api_Edge.av v1), Lz v2]), (1, .cells [Lz v3, Lz v4, Iz v5]), (2, .cells [Iz 0, AV.slc 3 0 3 (([] : List api_Arc).length) false]), (3, .grow (flatA (List.map api_Arc.av ([] : List api_Arc)))), (4, .cells [Iz v12, AV.slc 5 0 3 v22.length false]), (5, .grow (flatA (List.map api_Arc.av v22)))] 6 (by simp [F10]) (by simp [F10]) ?_
    refine AW.seq fun K535 hK535 => ?_
    by_cases h17 : v21 < (v13.length : Int)
    ·replace hF := ite_t h17 hF
     have h17_ := h17
     try simp at h17_
     have F11 := And.intro F10 (And.intro h17 h17_)
     refine CT (by simp [F11] <;> omega) ?_
     refine AW.skip ?_
     refine hK535 _ _ _ ?_
     refine AW.midF (α := (List api_Arc)) (fun v23 => split_Network.J4 k v21 (fun v21_ v22_ => split_Network.L3 k v0 v1 v2 v5 v6 v12 v13 n3 v21_ v22_) v23 = some (v7, v8, v9)) (fun v23 => [(2, Lz v6), (3, AV.ptr 0 0), (4, AV.ptr 1 0), (6, AV.ptr 2 0), (9, AV.ptr 4 0), (10, AV.fn 52 [AV.ptr 4 0]), (11, Lz v13), (63, Lz v13), (64, Iz (v13.length : Int)), (65, Iz v21)]) (fun v23 => [(0, .cells [Iz v0, AV.lst false false (List.map api_Edge.av v1), Lz v2]), (1, .cells [Lz v3, Lz v4, Iz v5]), (2, .cells [Iz 0, AV.slc 3 0 3 (([] : List api_Arc).length) false]), (3, .grow (flatA (List.map api_Arc.av ([] : List api_Arc)))), (4, .cells [Iz v12, AV.slc 5 0 3 v23.length false]), (5, .grow (flatA (List.map api_Arc.av v23)))]) 6 (fun K540 hK540 => ?_) ?_
     ·refine AW.block ?_
      refine SQ [] [none, none, none, none, none] fun _ _ g r => ?_
      obtain ⟨v24, h18, h19, h20, hF⟩ := idx_elim hF
      have h20_ := get_of h20
      try simp at h20_
      have h19_ := h19
      try simp at h19_
      have F12 := And.intro F11 (And.intro h18 (And.intro h19 (And.intro h20 (And.intro h20_ h19_))))
      try simp [F12]
      and_intros <;> first | exact g _ (by kernel_rfl) | refine r _ _ _ ?_ | omega | (simp [maxLen, F12] <;> omega)
      refine WK [(2, Lz v6), (3, AV.ptr 0 0), (4, AV.ptr 1 0), (6, AV.ptr 2 0), (9, AV.ptr 4 0), (10, AV.fn 52 [AV.ptr 4 0]), (11, Lz v13), (14, Iz v21), (15, Iz v24), (63, Lz v13), (64, Iz (v13.length : Int)), (65, Iz v21)] [(0, .cells [Iz v0, AV.lst false false (List.map api_Edge.av v1), Lz v2]), (1, .cells [Lz v3, Lz v4, Iz v5]), (2, .cells [Iz 0, AV.slc 3 0 3 (([] : List api_Arc).length) false]), (3, .grow (flatA (List.map api_Arc.av ([] : List api_Arc)))), (4, .cells [Iz v12, AV.slc 5 0 3 v22.length false]), (5, .grow (flatA (List.map api_Arc.av v22)))] 6 (by simp [F12]) (by simp [F12]) ?_
      refine SQ [] [none, none] fun _ _ g r => ?_
      try simp [F12]
      and_intros <;> first | exact g _ (by kernel_rfl) | refine r _ _ _ ?_ | omega | (simp [maxLen, F12] <;> omega)
      refine WK [(2, Lz v6), (3, AV.ptr 0 0), (4, AV.ptr 1 0), (6, AV.ptr 2 0), (9, AV.ptr 4 0), (10, AV.fn 52 [AV.ptr 4 0]), (11, Lz v13), (14, Iz v21), (15, Iz v24), (63, Lz v13), (64, Iz (v13.length : Int)), (65, Iz v21), (71, AV.bool (decide (0 < v24)))] [(0, .cells [Iz v0, AV.lst false false (List.map api_Edge.av v1), Lz v2]), (1, .cells [Lz v3, Lz v4, Iz v5]), (2, .cells [Iz 0, AV.slc 3 0 3 (([] : List api_Arc).length) false]), (3, .grow (flatA (List.map api_Arc.av ([] : List api_Arc)))), (4, .cells [Iz v12, AV.slc 5 0 3 v22.length false]), (5, .grow (flatA (List.map api_Arc.av v22)))] 6 (by simp [F12]) (by simp [F12]) ?_
      by_cases h21 : 0 < v24
      ·replace hF := ite_t h21 hF
       have h21_ := h21
       try simp at h21_
       have F13 := And.intro F12 (And.intro h21 h21_)
       refine CT (by simp [F13] <;> omega) ?_
       refine RG [] [none, none, none, none, none, none, none, none] fun _ _ g r => ?_
       try simp [F13]
       and_intros
       try any_goals first | omega | (simp [maxLen, F13] <;> omega)
       obtain ⟨v25, h22, hF⟩ := bnd1_elim hF
       refine AC (w_split_Entry k _ _ h22) (.cons (.same (by simp [F13])) .nil) ?_
       try simp [F13]
       and_intros
       try any_goals first | omega | (simp [maxLen, F13] <;> omega)
       obtain ⟨v26, h23, hF⟩ := bnd1_elim hF
       refine AC (w_split_Exit k _ _ h23) (.cons (.same (by simp [F13])) .nil) ?_
       try simp [F13]
       and_intros
       try any_goals first | omega | (simp [maxLen, F13] <;> omega)
       obtain ⟨v27, h24, hF⟩ := bnd1_elim hF
       refine aCall_l (w_split_Network_1 k _ _ _ _ _ _ h24) (by simp) [4, 5] [] [4, 5] rfl (.cons (.same (by simp [F13])) (.cons (.same (by simp [F13])) (.cons (.same (by simp [F13])) (.cons (.same (by simp [F13])) .nil)))) (by simp [F13]) (by decide) (by simp) (by simp) (.inl rfl) (by simp) (by simp) ?_
       try simp [F13]
       and_intros <;> first | exact g _ (by kernel_rfl) | refine r _ _ _ ?_ | omega | (simp [maxLen, F13] <;> omega)
       refine hK540 _ _ _ ?_
       refine RN h0 [(0, 0), (1, 1), (2, 2), (3, 3), (4, 4), (5, 6)] [(2, Lz v6), (3, AV.ptr 0 0), (4, AV.ptr 1 0), (6, AV.ptr 2 0), (9, AV.ptr 4 0), (10, AV.fn 52 [AV.ptr 4 0]), (11, Lz v13), (63, Lz v13), (64, Iz (v13.length : Int)), (65, Iz v21)] [(0, .cells [Iz v0, AV.lst false false (List.map api_Edge.av v1), Lz v2]), (1, .cells [Lz v3, Lz v4, Iz v5]), (2, .cells [Iz 0, AV.slc 3 0 3 (([] : List api_Arc).length) false]), (3, .grow (flatA (List.map api_Arc.av ([] : List api_Arc)))), (4, .cells [Iz v12, AV.slc 5 0 3 v27.length false]), (5, .grow (flatA (List.map api_Arc.av v27)))] 6 (by simp [F13]) (by simp [F13]) ?_
       exact JN (v27) hF (by simp [F13]) (by simp [F13])
      ·replace hF := ite_f h21 hF
       have h21_ := h21
       try simp at h21_
       have F14 := And.intro F12 (And.intro h21 h21_)
       refine CF (by simp [F14] <;> omega) ?_
       refine AW.skip ?_
       refine hK540 _ _ _ ?_
       exact JN (v22) hF (by simp [F14]) (by simp [F14])
     ·rintro v23 hF
      try dsimp only at hF
      unfold split_Network.J4 at hF
      refine RG [] [none, none] fun _ _ g r => ?_
      try simp [F11]
      and_intros <;> first | exact g _ (by kernel_rfl) | refine r _ _ _ ?_ | omega | (simp [maxLen, F11] <;> omega)
      refine hK533 _ _ _ ?_
      exact NX (k' := n3) ((IntKind.wrap .i64 (v21 + 1), v23)) hF (by simp [F11]) (by simp [F11])
    ·replace hF := ite_f h17 hF
     have h17_ := h17
     try simp at h17_
     have F15 := And.intro F10 (And.intro h17 h17_)
     refine CF (by simp [F15] <;> omega) ?_
     refine AW.exit ?_
     try simp
     refine hK501 _ _ _ ?_
     refine AW.seq fun K586 hK586 => ?_
     refine SQ [] [none, none, none] fun _ _ g r => ?_
     try simp [F15]
     and_intros <;> first | exact g _ (by kernel_rfl) | refine r _ _ _ ?_ | omega | (simp [maxLen, F15] <;> omega)
     refine WK [(3, AV.ptr 0 0), (4, AV.ptr 1 0), (6, AV.ptr 2 0), (9, AV.ptr 4 0), (10, AV.fn 52 [AV.ptr 4 0]), (11, Lz v13), (81, Lz v6), (82, Iz (v6.length : Int)), (83, Iz 0)] [(0, .cells [Iz v0, AV.lst false false (List.map api_Edge.av v1), Lz v2]), (1, .cells [Lz v3, Lz v4, Iz v5]), (2, .cells [Iz 0, AV.slc 3 0 3 (([] : List api_Arc).length) false]), (3, .grow (flatA (List.map api_Arc.av ([] : List api_Arc)))), (4, .cells [Iz v12, AV.slc 5 0 3 v22.length false]), (5, .grow (flatA (List.map api_Arc.av v22)))] 6 (by simp [F15]) (by simp [F15]) ?_
     refine AW.block ?_
     refine AW.loopF (α := (Int × (List api_Arc))) (fun n (v28, v29) => split_Network.L5 k v0 v1 v2 v5 v6 v12 v13 n v28 v29 = some (v7, v8, v9)) (fun (v28, v29) => [(3, AV.ptr 0 0), (4, AV.ptr 1 0), (6, AV.ptr 2 0), (9, AV.ptr 4 0), (10, AV.fn 52 [AV.ptr 4 0]), (11, Lz v13), (81, Lz v6), (82, Iz (v6.length : Int)), (83, Iz v28)]) (fun (v28, v29) => [(0, .cells [Iz v0, AV.lst false false (List.map api_Edge.av v1), Lz v2]), (1, .cells [Lz v3, Lz v4, Iz v5]), (2, .cells [Iz 0, AV.slc 3 0 3 (([] : List api_Arc).length) false]), (3, .grow (flatA (List.map api_Arc.av ([] : List api_Arc)))), (4, .cells [Iz v12, AV.slc 5 0 3 v29.length false]), (5, .grow (flatA (List.map api_Arc.av v29)))]) 6 k ((0, v22)) hF (by simp [F15]) (by simp [F15]) (by simp) ?_
     rintro (_|n5) ⟨v28, v29⟩ hF K618 hK618
     ·try dsimp only at hF
      rw [split_Network.L5] at hF; cases hF
     try dsimp only at hF
     rw [split_Network.L5] at hF
     refine SQ [] [none] fun _ _ g r => ?_
     try simp [F15]
     and_intros <;> first | exact g _ (by kernel_rfl) | refine r _ _ _ ?_ | omega | (simp [maxLen, F15] <;> omega)
     refine WK [(3, AV.ptr 0 0), (4, AV.ptr 1 0), (6, AV.ptr 2 0), (9, AV.ptr 4 0), (10, AV.fn 52 [AV.ptr 4 0]), (11, Lz v13), (81, Lz v6), (82, Iz (v6.length : Int)), (83, Iz v28), (84, AV.bool (decide (v28 < (v6.length : Int))))] [(0, .cells [Iz v0, AV.lst false false (List.map api_Edge.av v1), Lz v2]), (1, .cells [Lz v3, Lz v4, Iz v5]), (2, .cells [Iz 0, AV.slc 3 0 3 (([] : List api_Arc).length) false]), (3, .grow (flatA (List.map api_Arc.av ([] : List api_Arc)))), (4, .cells [Iz v12, AV.slc 5 0 3 v29.length false]), (5, .grow (flatA (List.map api_Arc.av v29)))] 6 (by simp [F15]) (by simp [F15]) ?_
     refine AW.seq fun K620 hK620 => ?_
     by_cases h25 : v28 < (v6.length : Int)
     ·replace hF := ite_t h25 hF
      have h25_ := h25
      try simp at h25_
      have F16 := And.intro F15 (And.intro h25 h25_)
      refine CT (by simp [F16] <;> omega) ?_
      refine AW.skip ?_
      refine hK620 _ _ _ ?_
      refine AW.midF (α := (List api_Arc)) (fun v30 => split_Network.J6 k v28 (fun v28_ v29_ => split_Network.L5 k v0 v1 v2 v5 v6 v12 v13 n5 v28_ v29_) v30 = some (v7, v8, v9)) (fun v30 => [(3, AV.ptr 0 0), (4, AV.ptr 1 0), (6, AV.ptr 2 0), (9, AV.ptr 4 0), (10, AV.fn 52 [AV.ptr 4 0]), (11, Lz v13), (81, Lz v6), (82, Iz (v6.length : Int)), (83, Iz v28)]) (fun v30 => [(0, .cells [Iz v0, AV.lst false false (List.map api_Edge.av v1), Lz v2]), (1, .cells [Lz v3, Lz v4, Iz v5]), (2, .cells [Iz 0, AV.slc 3 0 3 (([] : List api_Arc).length) false]), (3, .grow (flatA (List.map api_Arc.av ([] : List api_Arc)))), (4, .cells [Iz v12, AV.slc 5 0 3 v30.length false]), (5, .grow (flatA (List.map api_Arc.av v30)))]) 6 (fun K625 hK625 => ?_) ?_
      ·refine AW.block ?_
       refine SQ [] [none, none, none] fun _ _ g r => ?_
       obtain ⟨v31, h26, h27, h28, hF⟩ := idx_elim hF
       have h28_ := get_of h28
       try simp at h28_
       have h27_ := h27
       try simp at h27_
       have F17 := And.intro F16 (And.intro h26 (And.intro h27 (And.intro h28 (And.intro h28_ h27_))))
       try simp [F17]
       and_intros <;> first | exact g _ (by kernel_rfl) | refine r _ _ _ ?_ | omega | (simp [maxLen, F17] <;> omega)
       refine WK [(3, AV.ptr 0 0), (4, AV.ptr 1 0), (6, AV.ptr 2 0), (9, AV.ptr 4 0), (10, AV.fn 52 [AV.ptr 4 0]), (11, Lz v13), (17, Iz v31), (81, Lz v6), (82, Iz (v6.length : Int)), (83, Iz v28)] [(0, .cells [Iz v0, AV.lst false false (List.map api_Edge.av v1), Lz v2]), (1, .cells [Lz v3, Lz v4, Iz v5]), (2, .cells [Iz 0, AV.slc 3 0 3 (([] : List api_Arc).length) false]), (3, .grow (flatA (List.map api_Arc.av ([] : List api_Arc)))), (4, .cells [Iz v12, AV.slc 5 0 3 v29.length false]), (5, .grow (flatA (List.map api_Arc.av v29)))] 6 (by simp [F17]) (by simp [F17]) ?_
       refine SQ [] [none, none, none, none, none] fun _ _ g r => ?_
       obtain ⟨v32, h29, h30, h31, hF⟩ := idx_elim hF
       have h31_ := get_of h31
       try simp at h31_
       have h30_ := h30
       try simp at h30_
       have F18 := And.intro F17 (And.intro h29 (And.intro h30 (And.intro h31 (And.intro h31_ h30_))))
       try simp [F18]
       and_intros <;> first | exact g _ (by kernel_rfl) | refine r _ _ _ ?_ | omega | (simp [maxLen, F18] <;> omega)
       refine WK [(3, AV.ptr 0 0), (4, AV.ptr 1 0), (6, AV.ptr 2 0), (9, AV.ptr 4 0), (10, AV.fn 52 [AV.ptr 4 0]), (11, Lz v13), (17, Iz v31), (81, Lz v6), (82, Iz (v6.length : Int)), (83, Iz v28), (91, AV.bool (decide (0 < v32)))] [(0, .cells [Iz v0, AV.lst false false (List.map api_Edge.av v1), Lz v2]), (1, .cells [Lz v3, Lz v4, Iz v5]), (2, .cells [Iz 0, AV.slc 3 0 3 (([] : List api_Arc).length) false]), (3, .grow (flatA (List.map api_Arc.av ([] : List api_Arc)))), (4, .cells [Iz v12, AV.slc 5 0 3 v29.length false]), (5, .grow (flatA (List.map api_Arc.av v29)))] 6 (by simp [F18]) (by simp [F18]) ?_
       by_cases h32 : 0 < v32
       ·replace hF := ite_t h32 hF
        have h32_ := h32
        try simp at h32_
        have F19 := And.intro F18 (And.intro h32 h32_)
        refine CT (by simp [F19] <;> omega) ?_
        refine RG [] [none, none, none, none] fun _ _ g r => ?_
        try simp [F19]
        and_intros
        try any_goals first | omega | (simp [maxLen, F19] <;> omega)
        obtain ⟨v33, h33, hF⟩ := bnd1_elim hF
        refine AC (w_split_Entry k _ _ h33) (.cons (.same (by simp [F19])) .nil) ?_
        try simp [F19]
        and_intros
        try any_goals first | omega | (simp [maxLen, F19] <;> omega)
        obtain ⟨v34, h34, hF⟩ := bnd1_elim hF
        refine aCall_l (w_split_Network_1 k _ _ _ _ _ _ h34) (by simp) [4, 5] [] [4, 5] rfl (.cons (.same (by simp [F19])) (.cons (.same (by simp [F19])) (.cons (.same (by simp [F19])) (.cons (.same (by simp [F19])) .nil)))) (by simp [F19]) (by decide) (by simp) (by simp) (.inl rfl) (by simp) (by simp) ?_
        try simp [F19]
        and_intros <;> first | exact g _ (by kernel_rfl) | refine r _ _ _ ?_ | omega | (simp [maxLen, F19] <;> omega)
        refine hK625 _ _ _ ?_
        refine RN h0 [(0, 0), (1, 1), (2, 2), (3, 3), (4, 4), (5, 6)] [(3, AV.ptr 0 0), (4, AV.ptr 1 0), (6, AV.ptr 2 0), (9, AV.ptr 4 0), (10, AV.fn 52 [AV.ptr 4 0]), (11, Lz v13), (81, Lz v6), (82, Iz (v6.length : Int)), (83, Iz v28)] [(0, .cells [Iz v0, AV.lst false false (List.map api_Edge.av v1), Lz v2]), (1, .cells [Lz v3, Lz v4, Iz v5]), (2, .cells [Iz 0, AV.slc 3 0 3 (([] : List api_Arc).length) false]), (3, .grow (flatA (List.map api_Arc.av ([] : List api_Arc)))), (4, .cells [Iz v12, AV.slc 5 0 3 v34.length false]), (5, .grow (flatA (List.map api_Arc.av v34)))] 6 (by simp [F19]) (by simp [F19]) ?_
        exact JN (v34) hF (by simp [F19]) (by simp [F19])
       ·replace hF := ite_f h32 hF
        have h32_ := h32
        try simp at h32_
        have F20 := And.intro F18 (And.intro h32 h32_)
        refine CF (by simp [F20] <;> omega) ?_
        refine AW.skip ?_
        refine hK625 _ _ _ ?_
        exact JN (v29) hF (by simp [F20]) (by simp [F20])
      ·rintro v30 hF
       try dsimp only at hF
       unfold split_Network.J6 at hF
       refine RG [] [none, none] fun _ _ g r => ?_
       try simp [F16]
       and_intros <;> first | exact g _ (by kernel_rfl) | refine r _ _ _ ?_ | omega | (simp [maxLen, F16] <;> omega)
       refine hK618 _ _ _ ?_
       exact NX (k' := n5) ((IntKind.wrap .i64 (v28 + 1), v30)) hF (by simp [F16]) (by simp [F16])
     ·replace hF := ite_f h25 hF
      have h25_ := h25
      try simp at h25_
      have F21 := And.intro F15 (And.intro h25 h25_)
      refine CF (by simp [F21] <;> omega) ?_
      refine AW.exit ?_
      try simp
      refine hK586 _ _ _ ?_
      refine AW.seq fun K671 hK671 => ?_
      refine SQ [] [none, none, none, none, none, none, none] fun _ _ g r => ?_
      try simp [F21]
      and_intros
      try any_goals first | omega | (simp [maxLen, F21] <;> omega)
      obtain ⟨v35, v36, v37, h35, hF⟩ := bnd3_elim hF
      refine AC (w_graph_Level_o k _ _ _ _ _ _ _ h35) (.cons (.same (by simp [F21])) (.cons (.same (by simp [F21])) .nil)) ?_
      try simp [F21]
      and_intros <;> first | exact g _ (by kernel_rfl) | refine r _ _ _ ?_ | omega | (simp [maxLen, F21] <;> omega)
      refine WK [(6, AV.ptr 2 0), (9, AV.ptr 4 0), (10, AV.fn 52 [AV.ptr 4 0]), (11, Lz v13), (101, AV.lst false false (List.map api_Edge.av v36)), (102, Iz (v36.length : Int)), (103, Iz 0)] [(2, .cells [Iz 0, AV.slc 3 0 3 (([] : List api_Arc).length) false]), (3, .grow (flatA (List.map api_Arc.av ([] : List api_Arc)))), (4, .cells [Iz v12, AV.slc 5 0 3 v29.length false]), (5, .grow (flatA (List.map api_Arc.av v29)))] 7 (by simp [F21]) (by simp [F21]) ?_
      refine AW.block ?_
      refine RM h0 [(0, 2), (1, 3), (2, 4), (3, 5)] [(6, AV.ptr 0 0), (9, AV.ptr 2 0), (10, AV.fn 52 [AV.ptr 2 0]), (11, Lz v13), (101, AV.lst false false (List.map api_Edge.av v36)), (102, Iz (v36.length : Int)), (103, Iz 0)] [(0, .cells [Iz 0, AV.slc 1 0 3 (([] : List api_Arc).length) false]), (1, .grow (flatA (List.map api_Arc.av ([] : List api_Arc)))), (2, .cells [Iz v12, AV.slc 3 0 3 v29.length false]), (3, .grow (flatA (List.map api_Arc.av v29)))] 4 (by simp [F21]) (by simp [F21]) ?_
      refine AW.loopF (α := (Int × (List api_Arc))) (fun n (v38, v39) => split_Network.L7 k v12 v13 v36 n v38 v39 = some (v7, v8, v9)) (fun (v38, v39) => [(6, AV.ptr 0 0), (9, AV.ptr 2 0), (10, AV.fn 52 [AV.ptr 2 0]), (11, Lz v13), (101, AV.lst false false (List.map api_Edge.av v36)), (102, Iz (v36.length : Int)), (103, Iz v38)]) (fun (v38, v39) => [(0, .cells [Iz 0, AV.slc 1 0 3 (([] : List api_Arc).length) false]), (1, .grow (flatA (List.map api_Arc.av ([] : List api_Arc)))), (2, .cells [Iz v12, AV.slc 3 0 3 v39.length false]), (3, .grow (flatA (List.map api_Arc.av v39)))]) 4 k ((0, v29)) hF (by simp [F21]) (by simp [F21]) (by simp) ?_
      rintro (_|n7) ⟨v38, v39⟩ hF K703 hK703
      ·try dsimp only at hF
       rw [split_Network.L7] at hF; cases hF
      try dsimp only at hF
      rw [split_Network.L7] at hF
      refine SQ [] [none] fun _ _ g r => ?_
      try simp [F21]
      and_intros <;> first | exact g _ (by kernel_rfl) | refine r _ _ _ ?_ | omega | (simp [maxLen, F21] <;> omega)
      refine WK [(6, AV.ptr 0 0), (9, AV.ptr 2 0), (10, AV.fn 52 [AV.ptr 2 0]), (11, Lz v13), (101, AV.lst false false (List.map api_Edge.av v36)), (102, Iz (v36.length : Int)), (103, Iz v38), (104, AV.bool (decide (v38 < (v36.length : Int))))] [(0, .cells [Iz 0, AV.slc 1 0 3 (([] : List api_Arc).length) false]), (1, .grow (flatA (List.map api_Arc.av ([] : List api_Arc)))), (2, .cells [Iz v12, AV.slc 3 0 3 v39.length false]), (3, .grow (flatA (List.map api_Arc.av v39)))] 4 (by simp [F21]) (by simp [F21]) ?_
      refine AW.seq fun K705 hK705 => ?_
      by_cases h36 : v38 < (v36.length : Int)
      ·replace hF := ite_t h36 hF
       have h36_ := h36
       try simp at h36_
       have F22 := And.intro F21 (And.intro h36 h36_)
       refine CT (by simp [F22] <;> omega) ?_
       refine AW.skip ?_
       refine hK705 _ _ _ ?_
       refine AW.midF (α := (List api_Arc)) (fun v40 => split_Network.J8 k v38 (fun v38_ v39_ => split_Network.L7 k v12 v13 v36 n7 v38_ v39_) v40 = some (v7, v8, v9)) (fun v40 => [(6, AV.ptr 0 0), (9, AV.ptr 2 0), (10, AV.fn 52 [AV.ptr 2 0]), (11, Lz v13), (101, AV.lst false false (List.map api_Edge.av v36)), (102, Iz (v36.length : Int)), (103, Iz v38)]) (fun v40 => [(0, .cells [Iz 0, AV.slc 1 0 3 (([] : List api_Arc).length) false]), (1, .grow (flatA (List.map api_Arc.av ([] : List api_Arc)))), (2, .cells [Iz v12, AV.slc 3 0 3 v40.length false]), (3, .grow (flatA (List.map api_Arc.av v40)))]) 4 (fun K710 hK710 => ?_) ?_
       ·refine AW.block ?_
        refine SQ [] [none, none, none, none] fun _ _ g r => ?_
        obtain ⟨v41, h37, h38, h39, hF⟩ := idx_elim hF
        have h39_ := get_of h39
        try simp at h39_
        have h38_ := h38
        try simp at h38_
        have F23 := And.intro F22 (And.intro h37 (And.intro h38 (And.intro h39 (And.intro h39_ h38_))))
        try simp [F23]
        and_intros <;> first | exact g _ (by kernel_rfl) | refine r _ _ _ ?_ | omega | (simp [maxLen, F23] <;> omega)
        refine WK [(6, AV.ptr 0 0), (9, AV.ptr 2 0), (10, AV.fn 52 [AV.ptr 2 0]), (11, Lz v13), (19, AV.ptr 4 0), (101, AV.lst false false (List.map api_Edge.av v36)), (102, Iz (v36.length : Int)), (103, Iz v38)] [(0, .cells [Iz 0, AV.slc 1 0 3 (([] : List api_Arc).length) false]), (1, .grow (flatA (List.map api_Arc.av ([] : List api_Arc)))), (2, .cells [Iz v12, AV.slc 3 0 3 v39.length false]), (3, .grow (flatA (List.map api_Arc.av v39))), (4, .cells [Iz v41.From, Iz v41.To, Iz v41.Level])] 5 (by simp [F23]) (by simp [F23]) ?_
        refine SQ [] [none, none, none, none, none, none] fun _ _ g r => ?_
        obtain ⟨v42, h40, h41, h42, hF⟩ := idx_elim hF
        have h42_ := get_of h42
        try simp at h42_
        have h41_ := h41
        try simp at h41_
        have F24 := And.intro F23 (And.intro h40 (And.intro h41 (And.intro h42 (And.intro h42_ h41_))))
        try simp [F24]
        and_intros <;> first | exact g _ (by kernel_rfl) | refine r _ _ _ ?_ | omega | (simp [maxLen, F24] <;> omega)
        refine WK [(6, AV.ptr 0 0), (9, AV.ptr 2 0), (10, AV.fn 52 [AV.ptr 2 0]), (11, Lz v13), (19, AV.ptr 4 0), (101, AV.lst false false (List.map api_Edge.av v36)), (102, Iz (v36.length : Int)), (103, Iz v38), (112, AV.bool (decide (0 < v42)))] [(0, .cells [Iz 0, AV.slc 1 0 3 (([] : List api_Arc).length) false]), (1, .grow (flatA (List.map api_Arc.av ([] : List api_Arc)))), (2, .cells [Iz v12, AV.slc 3 0 3 v39.length false]), (3, .grow (flatA (List.map api_Arc.av v39))), (4, .cells [Iz v41.From, Iz v41.To, Iz v41.Level])] 5 (by simp [F24]) (by simp [F24]) ?_
        by_cases h43 : 0 < v42
        ·replace hF := ite_t h43 hF
         have h43_ := h43
         try simp at h43_
         have F25 := And.intro F24 (And.intro h43 h43_)
         refine CT (by simp [F25] <;> omega) ?_
         refine RG [] [none, none, none, none, none, none, none, none] fun _ _ g r => ?_
         try simp [F25]
         and_intros
         try any_goals first | omega | (simp [maxLen, F25] <;> omega)
         obtain ⟨v43, h44, hF⟩ := bnd1_elim hF
         refine AC (w_split_Exit k _ _ h44) (.cons (.same (by simp [F25])) .nil) ?_
         try simp [F25]
         and_intros
         try any_goals first | omega | (simp [maxLen, F25] <;> omega)
         obtain ⟨v44, h45, hF⟩ := bnd1_elim hF
         refine AC (w_split_Entry k _ _ h45) (.cons (.same (by simp [F25])) .nil) ?_
         try simp [F25]
         and_intros
         try any_goals first | omega | (simp [maxLen, F25] <;> omega)
         obtain ⟨v45, h46, hF⟩ := bnd1_elim hF
         refine aCall_l (w_split_Network_1 k _ _ _ _ _ _ h46) (by simp) [2, 3] [] [2, 3] rfl (.cons (.same (by simp [F25])) (.cons (.same (by simp [F25])) (.cons (.same (by simp [F25])) (.cons (.same (by simp [F25])) .nil)))) (by simp [F25]) (by decide) (by simp) (by simp) (.inl rfl) (by simp) (by simp) ?_
         try simp [F25]
         and_intros <;> first | exact g _ (by kernel_rfl) | refine r _ _ _ ?_ | omega | (simp [maxLen, F25] <;> omega)
         refine hK710 _ _ _ ?_
         refine RN h0 [(0, 0), (1, 1), (2, 2), (3, 5)] [(6, AV.ptr 0 0), (9, AV.ptr 2 0), (10, AV.fn 52 [AV.ptr 2 0]), (11, Lz v13), (101, AV.lst false false (List.map api_Edge.av v36)), (102, Iz (v36.length : Int)), (103, Iz v38)] [(0, .cells [Iz 0, AV.slc 1 0 3 (([] : List api_Arc).length) false]), (1, .grow (flatA (List.map api_Arc.av ([] : List api_Arc)))), (2, .cells [Iz v12, AV.slc 3 0 3 v45.length false]), (3, .grow (flatA (List.map api_Arc.av v45)))] 4 (by simp [F25]) (by simp [F25]) ?_
         exact JN (v45) hF (by simp [F25]) (by simp [F25])
        ·replace hF := ite_f h43 hF
         have h43_ := h43
         try simp at h43_
         have F26 := And.intro F24 (And.intro h43 h43_)
         refine CF (by simp [F26] <;> omega) ?_
         refine AW.skip ?_
         refine hK710 _ _ _ ?_
         refine RN h0 [(0, 0), (1, 1), (2, 2), (3, 3)] [(6, AV.ptr 0 0), (9, AV.ptr 2 0), (10, AV.fn 52 [AV.ptr 2 0]), (11, Lz v13), (101, AV.lst false false (List.map api_Edge.av v36)), (102, Iz (v36.length : Int)), (103, Iz v38)] [(0, .cells [Iz 0, AV.slc 1 0 3 (([] : List api_Arc).length) false]), (1, .grow (flatA (List.map api_Arc.av ([] : List api_Arc)))), (2, .cells [Iz v12, AV.slc 3 0 3 v39.length false]), (3, .grow (flatA (List.map api_Arc.av v39)))] 4 (by simp [F26]) (by simp [F26]) ?_
         exact JN (v39) hF (by simp [F26]) (by simp [F26])
       ·rintro v40 hF
        try dsimp only at hF
        unfold split_Network.J8 at hF
        refine RG [] [none, none] fun _ _ g r => ?_
        try simp [F22]
        and_intros <;> first | exact g _ (by kernel_rfl) | refine r _ _ _ ?_ | omega | (simp [maxLen, F22] <;> omega)
        refine hK703 _ _ _ ?_
        exact NX (k' := n7) ((IntKind.wrap .i64 (v38 + 1), v40)) hF (by simp [F22]) (by simp [F22])
      ·replace hF := ite_f h36 hF
       have h36_ := h36
       try simp at h36_
       have F27 := And.intro F21 (And.intro h36 h36_)
       refine CF (by simp [F27] <;> omega) ?_
       refine AW.exit ?_
       try simp
       refine hK671 _ _ _ ?_
       refine SQ [] [none, none, none] fun _ _ g r => ?_
       try simp [F27]
       and_intros <;> first | exact g _ (by kernel_rfl) | refine r _ _ _ ?_ | omega | (simp [maxLen, F27] <;> omega)
       refine RM h0 [(0, 3), (1, 0)] [(6, AV.ptr 1 0), (7, Iz 0)] [(0, .grow (flatA (List.map api_Arc.av v39))), (1, .cells [Iz v12, AV.slc 0 0 3 v39.length false])] 2 (by simp [F27]) (by simp [F27]) ?_
       simp only [Option.some.injEq, Prod.mk.injEq] at hF
       obtain ⟨e0, e1, e2⟩ := hF
       subst e0 e1 e2
       refine AW.ret (hQ _ _ _ ?_ (matchO_0 ?_)).1
       ·simp [Try.f33, F27]
       ·simp [F27]
abbrev c_law14_awake  : AObj := .cells [Iz 2, AV.slc 0 0 3 (([(api_Edge.mk 0 1 1)] : List api_Edge).length) true, AV.lst true true (List.map (AV.int .i64) ([] : List Int))]
abbrev c_law14_awake1  : AObj := .cells [Iz 2, AV.lst false true (List.map api_Edge.av ([(api_Edge.mk 0 1 1)] : List api_Edge)), AV.lst true true (List.map (AV.int .i64) ([] : List Int))]
theorem w_law14_awake (k : Nat) (v0 : Bool) (hF : law14_awake k = some v0) :
  FCall Try.prog 26 [] [] (AV.bool v0) [] := by
 unfold law14_awake at hF
 refine EN Try.func26 ?_
 intro c0 w0 Q h0 hQ
 refine WK [] [] 0 (by simp) (by simp) ?_
 refine SQ [] [none] fun _ _ g r => ?_
 try simp
 and_intros <;> first | exact g _ (by kernel_rfl) | refine r _ _ _ ?_ | omega | (simp [maxLen] <;> omega)
 refine WK [] [] 0 (by simp) (by simp) ?_
 refine SQ [5] [none, none, none, none, none] fun _ _ g r => ?_
 try simp
 and_intros <;> first | exact g _ (by kernel_rfl) | refine r _ _ _ ?_ | omega | (simp [maxLen] <;> omega)
 refine WK [(1, AV.ptr 1 0)] [(0, .cells (flatA (List.map api_Edge.av ([(api_Edge.mk 0 1 1)] : List api_Edge)))), (1, c_law14_awake )] 2 (by simp) (by simp) ?_
 refine AW.frz 0 (o := .cells (flatA (List.map api_Edge.av ([(api_Edge.mk 0 1 1)] : List api_Edge)))) (by simp) rfl [] [(1, c_law14_awake1 )] trivial ⟨⟨by simp, (c_law14_awake ), by simp, (.mk (.cons (.same _) (.cons (.l (by simp) (by simp) (by simp) (by simp)) (.cons (.same _) .nil))))⟩, trivial⟩ ?_
 refine WK [(1, AV.ptr 1 0)] [(1, c_law14_awake1 )] 2 (by simp) (by simp) ?_
 refine SQ [] [none, none, none, none, none, none, none, none, none, none, none, none] fun _ _ g r => ?_
 try simp
 and_intros
 try any_goals first | omega | (simp [maxLen] <;> omega)
 obtain ⟨v1, v2, v3, h1, hF⟩ := bnd3_elim hF
 refine AC (w_split_Network k _ _ _ _ _ _ _ _ _ _ h1) (.cons (.agg (.cons (.same (by simp)) (.cons (Coe.fl (by simp)) (.cons (Coe.fl (by simp)) .nil)))) (.cons (.agg (.cons (Coe.fl (by simp)) (.cons (Coe.fl (by simp)) (.cons (.same (by simp)) .nil)))) (.cons (Coe.fl (by simp)) .nil))) ?_
 try simp
 and_intros <;> first | exact g _ (by kernel_rfl) | refine r _ _ _ ?_ | omega | (simp [maxLen] <;> omega)
 refine WK [(2, AV.ptr 3 0), (3, Iz v3)] [(2, .grow (flatA (List.map api_Arc.av v2))), (3, .cells [Iz v1, AV.slc 2 0 3 v2.length false])] 4 (by simp) (by simp) ?_
 refine AW.frz 2 (o := .grow (flatA (List.map api_Arc.av v2))) (by simp) rfl [] [(3, .cells [Iz v1, AV.lst false false (List.map api_Arc.av v2)])] trivial ⟨⟨by simp, AObj.cells [Iz v1, AV.slc 2 0 3 v2.length false], by simp, (.mk (.cons (.same _) (.cons (.l (by simp) (by simp) (by simp) (by simp)) .nil)))⟩, trivial⟩ ?_
 refine WK [(2, AV.ptr 3 0), (3, Iz v3)] [(3, .cells [Iz v1, AV.lst false false (List.map api_Arc.av v2)])] 4 (by simp) (by simp) ?_
 refine SQ [] [none, none, none, some (18, true), some (18, true), some (18, true), none, none, some (23, true), some (23, true), some (23, true), some (23, true), none, none, some (29, true), some (29, true), some (29, true), some (29, true), some (29, true), some (29, true), none, none, some (37, true), some (37, true), some (37, true), some (37, true), some (37, true), some (37, true), none, none, some (45, true), some (45, true), none, none, some (49, true), some (49, true), none, none] fun _ _ g r => ?_
 by_cases h2 : v3 = 0
 ·replace hF := ite_t h2 hF
  have h2q : v3 = 0 := h2
  have h2_ := eqb_t h2q
  have h2__ := neb_f h2q
  by_cases h3 : v1 = 6
  ·replace hF := ite_t h3 hF
   have h3q : v1 = 6 := h3
   have h3_ := eqb_t h3q
   have h3__ := neb_f h3q
   by_cases h4 : (v2.length : Int) = 6
   ·replace hF := ite_t h4 hF
    have h4q : (v2.length : Int) = 6 := h4
    have h4_ := eqb_t h4q
    have h4__ := neb_f h4q
    obtain ⟨v4, h5, h6, h7, hF⟩ := idx_elim hF
    have h7_ := get_of h7
    try simp at h7_
    have h6_ := h6
    try simp at h6_
    have h7z := head_of h7
    obtain ⟨v5, h8, hF⟩ := let1_elim hF
    have h8_ := h8
    try simp at h8_
    by_cases h9 : v5 = true
    ·replace hF := ite_t h9 hF
     have h9_ := h9
     try simp at h9_
     obtain ⟨v6, h10, h11, h12, hF⟩ := idx_elim hF
     have h12_ := get_of h12
     try simp at h12_
     have h11_ := h11
     try simp at h11_
     obtain ⟨v7, h13, hF⟩ := let1_elim hF
     have h13_ := h13
     try simp at h13_
     by_cases h14 : v7 = true
     ·replace hF := ite_t h14 hF
      have h14_ := h14
      try simp at h14_
      have F1 := And.intro h2_ (And.intro h2__ (And.intro h2q (And.intro h3_ (And.intro h3__ (And.intro h3q (And.intro h4_ (And.intro h4__ (And.intro h4q (And.intro h5 (And.intro h6 (And.intro h7 (And.intro h7_ (And.intro h6_ (And.intro h7z (And.intro h8 (And.intro h8_ (And.intro h9 (And.intro h9_ (And.intro h10 (And.intro h11 (And.intro h12 (And.intro h12_ (And.intro h11_ (And.intro h13 (And.intro h13_ (And.intro h14 h14_))))))))))))))))))))))))))
      try simp [F1]
      and_intros
      try any_goals first | omega | (simp [maxLen, F1] <;> omega)
      obtain ⟨v8, h15, hF⟩ := bnd1_elim hF
      refine AC (w_split_Entry k _ _ h15) (.cons (.same (by simp [F1])) .nil) ?_
      by_cases h16 : v8 = 4
      ·replace hF := ite_t h16 hF
       have h16q : v8 = 4 := h16
       have h16_ := eqb_t h16q
       have h16__ := neb_f h16q
       have F2 := And.intro F1 (And.intro h16_ (And.intro h16__ h16q))
       try simp [F2]
       and_intros
       try any_goals first | omega | (simp [maxLen, F2] <;> omega)
       obtain ⟨v9, h17, hF⟩ := bnd1_elim hF
       refine AC (w_split_Exit k _ _ h17) (.cons (.same (by simp [F2])) .nil) ?_
       try simp [F2]
       and_intros <;> first | exact g _ (by kernel_rfl) | refine r _ _ _ ?_ | omega | (simp [maxLen, F2] <;> omega)
       refine WK [(0, AV.bool (v9 == 5))] [] 4 (by simp [F2]) (by simp [F2]) ?_
       simp only [Option.some.injEq] at hF
       subst hF
       refine AW.ret (hQ _ _ _ ?_ (matchO_0 ?_)).1
       ·simp [Try.f26, F2]
       ·simp [F2]
      ·replace hF := ite_f h16 hF
       have h16_ := eqb_f h16
       have h16__ := neb_t h16
       have F3 := And.intro F1 (And.intro h16 (And.intro h16_ h16__))
       try simp [F3]
       and_intros <;> first | exact g _ (by kernel_rfl) | refine r _ _ _ ?_ | omega | (simp [maxLen, F3] <;> omega)
       refine WK [(0, AV.bool false)] [] 4 (by simp [F3]) (by simp [F3]) ?_
       simp only [Option.some.injEq] at hF
       subst hF
       refine AW.ret (hQ _ _ _ ?_ (matchO_0 ?_)).1
       ·simp [Try.f26, F3]
       ·simp [F3]
     ·replace hF := ite_f h14 hF
      have h14_ := h14
      try simp at h14_
      have F4 := And.intro h2_ (And.intro h2__ (And.intro h2q (And.intro h3_ (And.intro h3__ (And.intro h3q (And.intro h4_ (And.intro h4__ (And.intro h4q (And.intro h5 (And.intro h6 (And.intro h7 (And.intro h7_ (And.intro h6_ (And.intro h7z (And.intro h8 (And.intro h8_ (And.intro h9 (And.intro h9_ (And.intro h10 (And.intro h11 (And.intro h12 (And.intro h12_ (And.intro h11_ (And.intro h13 (And.intro h13_ (And.intro h14 h14_))))))))))))))))))))))))))
      try simp [F4]
      and_intros <;> first | exact g _ (by kernel_rfl) | refine r _ _ _ ?_ | omega | (simp [maxLen, F4] <;> omega)
      refine WK [(0, AV.bool false)] [] 4 (by simp [F4]) (by simp [F4]) ?_
      simp only [Option.some.injEq] at hF
      subst hF
      refine AW.ret (hQ _ _ _ ?_ (matchO_0 ?_)).1
      ·simp [Try.f26, F4]
      ·simp [F4]
    ·replace hF := ite_f h9 hF
     have h9_ := h9
     try simp at h9_
     have F5 := And.intro h2_ (And.intro h2__ (And.intro h2q (And.intro h3_ (And.intro h3__ (And.intro h3q (And.intro h4_ (And.intro h4__ (And.intro h4q (And.intro h5 (And.intro h6 (And.intro h7 (And.intro h7_ (And.intro h6_ (And.intro h7z (And.intro h8 (And.intro h8_ (And.intro h9 h9_)))))))))))))))))
     try simp [F5]
     and_intros <;> first | exact g _ (by kernel_rfl) | refine r _ _ _ ?_ | omega | (simp [maxLen, F5] <;> omega)
     refine WK [(0, AV.bool false)] [] 4 (by simp [F5]) (by simp [F5]) ?_
     simp only [Option.some.injEq] at hF
     subst hF
     refine AW.ret (hQ _ _ _ ?_ (matchO_0 ?_)).1
     ·simp [Try.f26, F5]
     ·simp [F5]
   ·replace hF := ite_f h4 hF
    have h4_ := eqb_f h4
    have h4__ := neb_t h4
    have F6 := And.intro h2_ (And.intro h2__ (And.intro h2q (And.intro h3_ (And.intro h3__ (And.intro h3q (And.intro h4 (And.intro h4_ h4__)))))))
    try simp [F6]
    and_intros <;> first | exact g _ (by kernel_rfl) | refine r _ _ _ ?_ | omega | (simp [maxLen, F6] <;> omega)
    refine WK [(0, AV.bool false)] [] 4 (by simp [F6]) (by simp [F6]) ?_
    simp only [Option.some.injEq] at hF
    subst hF
    refine AW.ret (hQ _ _ _ ?_ (matchO_0 ?_)).1
    ·simp [Try.f26, F6]
    ·simp [F6]
  ·replace hF := ite_f h3 hF
   have h3_ := eqb_f h3
   have h3__ := neb_t h3
   have F7 := And.intro h2_ (And.intro h2__ (And.intro h2q (And.intro h3 (And.intro h3_ h3__))))
   try simp [F7]
   and_intros <;> first | exact g _ (by kernel_rfl) | refine r _ _ _ ?_ | omega | (simp [maxLen, F7] <;> omega)
   refine WK [(0, AV.bool false)] [] 4 (by simp [F7]) (by simp [F7]) ?_
   simp only [Option.some.injEq] at hF
   subst hF
   refine AW.ret (hQ _ _ _ ?_ (matchO_0 ?_)).1
   ·simp [Try.f26, F7]
   ·simp [F7]
 ·replace hF := ite_f h2 hF
  have h2_ := eqb_f h2
  have h2__ := neb_t h2
  have F8 := And.intro h2 (And.intro h2_ h2__)
  try simp [F8]
  and_intros <;> first | exact g _ (by kernel_rfl) | refine r _ _ _ ?_ | omega | (simp [maxLen, F8] <;> omega)
  refine WK [(0, AV.bool false)] [] 4 (by simp [F8]) (by simp [F8]) ?_
  simp only [Option.some.injEq] at hF
  subst hF
  refine AW.ret (hQ _ _ _ ?_ (matchO_0 ?_)).1
  ·simp [Try.f26, F8]
  ·simp [F8]
theorem w_made_Roll (k : Nat) (v0 : (List Int)) (v1 : (List Int)) (v2 : Int) (hF : made_Roll k v0 = some (v1, v2)) :
  FCall Try.prog 11 [AV.lst false false (List.map (AV.int .i64) v0)] [] (AV.ptr 0 0) [some (.cells [AV.lst false false (List.map (AV.int .i64) v1), AV.int .i64 v2])] := by
 unfold made_Roll at hF
 refine EN Try.func11 ?_
 intro c0 w0 Q h0 hQ
 refine WK [(0, Lz v0)] [] 0 (by simp) (by simp) ?_
 refine SQ [] [none] fun _ _ g r => ?_
 try simp
 and_intros <;> first | exact g _ (by kernel_rfl) | refine r _ _ _ ?_ | omega | (simp [maxLen] <;> omega)
 refine WK [(0, Lz v0)] [] 0 (by simp) (by simp) ?_
 refine SQ [] [none, none, none, none] fun _ _ g r => ?_
 try simp
 and_intros <;> first | exact g _ (by kernel_rfl) | refine r _ _ _ ?_ | omega | (simp [maxLen] <;> omega)
 refine WK [(2, AV.ptr 0 0)] [(0, .cells [Lz v0, Iz 0])] 1 (by simp) (by simp) ?_
 simp only [Option.some.injEq, Prod.mk.injEq] at hF
 obtain ⟨e0, e1⟩ := hF
 subst e0 e1
 refine AW.ret (hQ _ _ _ ?_ (matchO_0 ?_)).1
 ·simp [Try.f11]
 ·simp
theorem w_made_Mod (k : Nat) (v0 : Int) (v1 : Int) (v2 : Int) (hF : made_Mod k v0 v1 = some v2) :
  FCall Try.prog 27 [AV.int .i64 v0, AV.int .i64 v1] [] (AV.int .i64 v2) [] := by
 unfold made_Mod at hF
 refine EN Try.func27 ?_
 intro c0 w0 Q h0 hQ
 refine WK [(0, Iz v0), (1, Iz v1)] [] 0 (by simp) (by simp) ?_
 refine SQ [] [none] fun _ _ g r => ?_
 try simp
 and_intros <;> first | exact g _ (by kernel_rfl) | refine r _ _ _ ?_ | omega | (simp [maxLen] <;> omega)
 refine WK [(0, Iz v0), (1, Iz v1)] [] 0 (by simp) (by simp) ?_
 refine AW.seq fun K17 hK17 => ?_
 refine SQ [] [none, none] fun _ _ g r => ?_
 try simp
 and_intros <;> first | exact g _ (by kernel_rfl) | refine r _ _ _ ?_ | omega | (simp [maxLen] <;> omega)
 refine WK [(0, Iz v0), (1, Iz v1), (6, AV.bool (decide (v1 < 1)))] [] 0 (by simp) (by simp) ?_
 by_cases h1 : v1 < 1
 ·replace hF := ite_t h1 hF
  have h1_ := h1
  try simp at h1_
  refine CT (by simp [h1, h1_] <;> omega) ?_
  refine SQ [] [none] fun _ _ g r => ?_
  try simp [h1, h1_]
  and_intros <;> first | exact g _ (by kernel_rfl) | refine r _ _ _ ?_ | omega | (simp [h1, h1_, maxLen] <;> omega)
  refine WK [(4, Iz 0)] [] 0 (by simp [h1, h1_]) (by simp [h1, h1_]) ?_
  simp only [Option.some.injEq] at hF
  subst hF
  refine AW.ret (hQ _ _ _ ?_ (matchO_0 ?_)).1
  ·simp [Try.f27, h1, h1_]
  ·simp [h1, h1_]
 ·replace hF := ite_f h1 hF
  have h1_ := h1
  try simp at h1_
  refine CF (by simp [h1, h1_] <;> omega) ?_
  refine AW.skip ?_
  refine hK17 _ _ _ ?_
  refine SQ [] [none, none, none, none] fun _ _ g r => ?_
  obtain ⟨h2, hF⟩ := chk_elim hF
  have h2_ := h2
  try simp at h2_
  have F1 := And.intro h1 (And.intro h1_ (And.intro h2 h2_))
  try simp [F1]
  and_intros <;> first | exact g _ (by kernel_rfl) | refine r _ _ _ ?_ | omega | (simp [maxLen, F1] <;> omega)
  refine WK [(0, Iz (Int.tmod v0 v1)), (1, Iz v1)] [] 0 (by simp [F1]) (by simp [F1]) ?_
  refine AW.midF (α := Int) (fun v3 => made_Mod.J1 k v3 = some v2) (fun v3 => [(0, Iz v3)]) (fun v3 => []) 0 (fun K24 hK24 => ?_) ?_
  ·refine SQ [] [none, none] fun _ _ g r => ?_
   try simp [F1]
   and_intros <;> first | exact g _ (by kernel_rfl) | refine r _ _ _ ?_ | omega | (simp [maxLen, F1] <;> omega)
   refine WK [(0, Iz (Int.tmod v0 v1)), (1, Iz v1), (11, AV.bool (decide (Int.tmod v0 v1 < 0)))] [] 0 (by simp [F1]) (by simp [F1]) ?_
   by_cases h3 : Int.tmod v0 v1 < 0
   ·replace hF := ite_t h3 hF
    have h3_ := h3
    try simp at h3_
    have F2 := And.intro F1 (And.intro h3 h3_)
    refine CT (by simp [F2] <;> omega) ?_
    refine RG [] [none, none, none, none] fun _ _ g r => ?_
    try simp [F2]
    and_intros <;> first | exact g _ (by kernel_rfl) | refine r _ _ _ ?_ | omega | (simp [maxLen, F2] <;> omega)
    refine hK24 _ _ _ ?_
    exact JN (IntKind.wrap .i64 (Int.tmod v0 v1 + v1)) hF (by simp [F2]) (by simp [F2])
   ·replace hF := ite_f h3 hF
    have h3_ := h3
    try simp at h3_
    have F3 := And.intro F1 (And.intro h3 h3_)
    refine CF (by simp [F3] <;> omega) ?_
    refine AW.skip ?_
    refine hK24 _ _ _ ?_
    exact JN (Int.tmod v0 v1) hF (by simp [F3]) (by simp [F3])
  ·rintro v3 hF
   try dsimp only at hF
   unfold made_Mod.J1 at hF
   refine SQ [] [none, none] fun _ _ g r => ?_
   try simp [F1]
   and_intros <;> first | exact g _ (by kernel_rfl) | refine r _ _ _ ?_ | omega | (simp [maxLen, F1] <;> omega)
   refine WK [(4, Iz v3)] [] 0 (by simp [F1]) (by simp [F1]) ?_
   simp only [Option.some.injEq] at hF
   subst hF
   refine AW.ret (hQ _ _ _ ?_ (matchO_0 ?_)).1
   ·simp [Try.f27, F1]
   ·simp [F1]
theorem w_made_Dice_Next (k : Nat) (v0 : (List Int)) (v1 : Int) (v2 : Int) (v3 : Int) (v4 : Int) (hF : made_Dice_Next k v0 v1 v2 = some (v3, v4)) :
  FCall Try.prog 18 [AV.ptr 0 0, AV.int .i64 v2] [.cells [AV.lst false false (List.map (AV.int .i64) v0), AV.int .i64 v1]] (AV.int .i64 v3) [some (.cells [AV.lst false false (List.map (AV.int .i64) v0), AV.int .i64 v4])] := by
 unfold made_Dice_Next at hF
 refine EN Try.func18 ?_
 intro c0 w0 Q h0 hQ
 refine WK [(0, AV.ptr 0 0), (1, Iz v2)] [(0, .cells [Lz v0, Iz v1])] 1 (by simp) (by simp) ?_
 refine SQ [] [none] fun _ _ g r => ?_
 try simp
 and_intros <;> first | exact g _ (by kernel_rfl) | refine r _ _ _ ?_ | omega | (simp [maxLen] <;> omega)
 refine WK [(0, AV.ptr 0 0), (1, Iz v2)] [(0, .cells [Lz v0, Iz v1])] 1 (by simp) (by simp) ?_
 refine AW.seq fun K12 hK12 => ?_
 refine SQ [] [none, none, none, none, none, none, none, none, none, none] fun _ _ g r => ?_
 try simp
 and_intros <;> first | exact g _ (by kernel_rfl) | refine r _ _ _ ?_ | omega | (simp [maxLen] <;> omega)
 refine WK [(0, AV.ptr 0 0), (1, Iz v2), (14, AV.bool (decide ((v0.length : Int) ≤ v1)))] [(0, .cells [Lz v0, Iz v1])] 1 (by simp) (by simp) ?_
 by_cases h1 : (v0.length : Int) ≤ v1
 ·replace hF := ite_t h1 hF
  have h1_ := h1
  try simp at h1_
  refine CT (by simp [h1, h1_] <;> omega) ?_
  refine SQ [] [none] fun _ _ g r => ?_
  try simp [h1, h1_]
  and_intros <;> first | exact g _ (by kernel_rfl) | refine r _ _ _ ?_ | omega | (simp [h1, h1_, maxLen] <;> omega)
  refine WK [(4, Iz 0)] [(0, .cells [Lz v0, Iz v1])] 1 (by simp [h1, h1_]) (by simp [h1, h1_]) ?_
  simp only [Option.some.injEq, Prod.mk.injEq] at hF
  obtain ⟨e0, e1⟩ := hF
  subst e0 e1
  refine AW.ret (hQ _ _ _ ?_ (matchO_0 ?_)).1
  ·simp [Try.f18, h1, h1_]
  ·simp [h1, h1_]
 ·replace hF := ite_f h1 hF
  have h1_ := h1
  try simp at h1_
  refine CF (by simp [h1, h1_] <;> omega) ?_
  refine AW.skip ?_
  refine hK12 _ _ _ ?_
  refine SQ [] [none, none, none, none, none, none, none, none] fun _ _ g r => ?_
  try simp [h1, h1_]
  and_intros <;> first | exact g _ (by kernel_rfl) | refine r _ _ _ ?_ | omega | (simp [h1, h1_, maxLen] <;> omega)
  refine WK [(0, AV.ptr 0 0), (1, Iz v2)] [(0, .cells [Lz v0, Iz (IntKind.wrap .i64 (v1 + 1))])] 1 (by simp [h1, h1_]) (by simp [h1, h1_]) ?_
  refine SQ [] [none, none, none, none, none, none, none, none, none, none, none, none, none, none] fun _ _ g r => ?_
  obtain ⟨v5, h2, h3, h4, hF⟩ := idx_elim hF
  have h4_ := get_of h4
  try simp at h4_
  have h3_ := h3
  try simp at h3_
  have F1 := And.intro h1 (And.intro h1_ (And.intro h2 (And.intro h3 (And.intro h4 (And.intro h4_ h3_)))))
  try simp [F1]
  and_intros
  try any_goals first | omega | (simp [maxLen, F1] <;> omega)
  obtain ⟨v6, h5, hF⟩ := bnd1_elim hF
  refine AC (w_made_Mod k _ _ _ h5) (.cons (.same (by simp [F1])) (.cons (.same (by simp [F1])) .nil)) ?_
  try simp [F1]
  and_intros <;> first | exact g _ (by kernel_rfl) | refine r _ _ _ ?_ | omega | (simp [maxLen, F1] <;> omega)
  refine WK [(4, Iz v6)] [(0, .cells [Lz v0, Iz (IntKind.wrap .i64 (v1 + 1))])] 1 (by simp [F1]) (by simp [F1]) ?_
  simp only [Option.some.injEq, Prod.mk.injEq] at hF
  obtain ⟨e0, e1⟩ := hF
  subst e0 e1
  refine AW.ret (hQ _ _ _ ?_ (matchO_0 ?_)).1
  ·simp [Try.f18, F1]
  ·simp [F1]
theorem w_made_Dice_One (k : Nat) (v0 : (List Int)) (v1 : Int) (v2 : Int) (v3 : Bool) (v4 : Int) (hF : made_Dice_One k v0 v1 v2 = some (v3, v4)) :
  FCall Try.prog 36 [AV.ptr 0 0, AV.int .i64 v2] [.cells [AV.lst false false (List.map (AV.int .i64) v0), AV.int .i64 v1]] (AV.bool v3) [some (.cells [AV.lst false false (List.map (AV.int .i64) v0), AV.int .i64 v4])] := by
 unfold made_Dice_One at hF
 refine EN Try.func36 ?_
 intro c0 w0 Q h0 hQ
 refine WK [(0, AV.ptr 0 0), (1, Iz v2)] [(0, .cells [Lz v0, Iz v1])] 1 (by simp) (by simp) ?_
 refine SQ [] [none] fun _ _ g r => ?_
 try simp
 and_intros <;> first | exact g _ (by kernel_rfl) | refine r _ _ _ ?_ | omega | (simp [maxLen] <;> omega)
 refine WK [(0, AV.ptr 0 0), (1, Iz v2)] [(0, .cells [Lz v0, Iz v1])] 1 (by simp) (by simp) ?_
 refine SQ [] [none, none, none, none, none, none, none] fun _ _ g r => ?_
 try simp
 and_intros
 try any_goals first | omega | (simp [maxLen] <;> omega)
 obtain ⟨v5, v6, h1, hF⟩ := bnd2_elim hF
 refine aCall_l (w_made_Dice_Next k _ _ _ _ _ h1) (by simp) [0] [] [0] rfl (.cons (.same (by simp)) (.cons (.same (by simp)) .nil)) (by simp) (by decide) (by simp) (by simp) (.inl rfl) (by simp) (by simp) ?_
 try simp
 and_intros <;> first | exact g _ (by kernel_rfl) | refine r _ _ _ ?_ | omega | (simp [maxLen] <;> omega)
 refine WK [(4, AV.bool (v5 == (IntKind.wrap .i64 (v2 - 1))))] [(0, .cells [Lz v0, Iz v6])] 1 (by simp) (by simp) ?_
 simp only [Option.some.injEq, Prod.mk.injEq] at hF
 obtain ⟨e0, e1⟩ := hF
 subst e0 e1
 refine AW.ret (hQ _ _ _ ?_ (matchO_0 ?_)).1
 ·simp [Try.f36]
 ·simp
theorem w_ref11_Set (k : Nat) (v0 : (List Int)) (v1 : Int) (v2 : Bool) (hF : ref11_Set k v0 v1 = some v2) :
  FCall Try.prog 58 [AV.lst false false (List.map (AV.int .i64) v0), AV.int .i64 v1] [] (AV.bool v2) [] := by
 unfold ref11_Set at hF
 refine EN Try.func58 ?_
 intro c0 w0 Q h0 hQ
 refine WK [(0, Lz v0), (1, Iz v1)] [] 0 (by simp) (by simp) ?_
 refine SQ [] [none] fun _ _ g r => ?_
 try simp
 and_intros <;> first | exact g _ (by kernel_rfl) | refine r _ _ _ ?_ | omega | (simp [maxLen] <;> omega)
 refine WK [(0, Lz v0), (1, Iz v1)] [] 0 (by simp) (by simp) ?_
 refine AW.seq fun K155 hK155 => ?_
 refine SQ [] [none] fun _ _ g r => ?_
 try simp
 and_intros <;> first | exact g _ (by kernel_rfl) | refine r _ _ _ ?_ | omega | (simp [maxLen] <;> omega)
 refine WK [(0, Lz v0), (1, Iz v1), (5, Iz 0)] [] 0 (by simp) (by simp) ?_
 refine AW.block ?_
 refine AW.loopF (α := Int) (fun n v3 => ref11_Set.L1 k v0 v1 n v3 = some v2) (fun v3 => [(0, Lz v0), (1, Iz v1), (5, Iz v3)]) (fun v3 => []) 0 k (0) hF (by simp) (by simp) (by simp) ?_
 rintro (_|n1) v3 hF K192 hK192
 ·try dsimp only at hF
  rw [ref11_Set.L1] at hF; cases hF
 try dsimp only at hF
 rw [ref11_Set.L1] at hF
 refine AW.seq fun K194 hK194 => ?_
 refine SQ [] [none, none, none, none] fun _ _ g r => ?_
 try simp
 and_intros <;> first | exact g _ (by kernel_rfl) | refine r _ _ _ ?_ | omega | (simp [maxLen] <;> omega)
 refine WK [(0, Lz v0), (1, Iz v1), (5, Iz v3), (9, AV.bool (decide (v3 < (v0.length : Int))))] [] 0 (by simp) (by simp) ?_
 by_cases h1 : v3 < (v0.length : Int)
 ·replace hF := ite_t h1 hF
  have h1_ := h1
  try simp at h1_
  refine CT (by simp [h1, h1_] <;> omega) ?_
  refine AW.skip ?_
  refine hK194 _ _ _ ?_
  refine AW.midF (α := Unit) (fun _ => ref11_Set.J2 k v3 (fun v3_ => ref11_Set.L1 k v0 v1 n1 v3_) = some v2) (fun _ => [(0, Lz v0), (1, Iz v1), (5, Iz v3)]) (fun _ => []) 0 (fun K201 hK201 => ?_) ?_
  ·refine AW.block ?_
   refine SQ [] [none, none, none, none, none, none, some (17, false), some (17, false), some (17, false), some (17, false), some (17, false), some (17, false), none, none, some (25, false), some (25, false), some (25, false), some (28, true), some (28, true), some (28, true), some (28, true), some (28, true), some (28, true), some (28, true), some (28, true), some (28, true), some (28, true), some (25, false), none] fun _ _ g r => ?_
   obtain ⟨v4, h2, h3, h4, hF⟩ := idx_elim hF
   have h4_ := get_of h4
   try simp at h4_
   have h3_ := h3
   try simp at h3_
   by_cases h5 : v4 < 0
   ·replace hF := ite_t h5 hF
    have h5_ := h5
    try simp at h5_
    have F1 := And.intro h1 (And.intro h1_ (And.intro h2 (And.intro h3 (And.intro h4 (And.intro h4_ (And.intro h3_ (And.intro h5 h5_)))))))
    try simp [F1]
    and_intros <;> first | exact g _ (by kernel_rfl) | refine r _ _ _ ?_ | omega | (simp [maxLen, F1] <;> omega)
    refine WK [(0, Lz v0), (1, Iz v1), (5, Iz v3), (40, AV.bool true)] [] 0 (by simp [F1]) (by simp [F1]) ?_
    refine CT (by simp [F1]) ?_
    refine SQ [] [none] fun _ _ g r => ?_
    try simp [F1]
    and_intros <;> first | exact g _ (by kernel_rfl) | refine r _ _ _ ?_ | omega | (simp [maxLen, F1] <;> omega)
    refine WK [(4, AV.bool false)] [] 0 (by simp [F1]) (by simp [F1]) ?_
    simp only [Option.some.injEq] at hF
    subst hF
    refine AW.ret (hQ _ _ _ ?_ (matchO_0 ?_)).1
    ·simp [Try.f58, F1]
    ·simp [F1]
   ·replace hF := ite_f h5 hF
    have h5_ := h5
    try simp at h5_
    by_cases h6 : v1 ≤ v4
    ·replace hF := ite_t h6 hF
     have h6_ := h6
     try simp at h6_
     have F2 := And.intro h1 (And.intro h1_ (And.intro h2 (And.intro h3 (And.intro h4 (And.intro h4_ (And.intro h3_ (And.intro h5 (And.intro h5_ (And.intro h6 h6_)))))))))
     try simp [F2]
     and_intros <;> first | exact g _ (by kernel_rfl) | refine r _ _ _ ?_ | omega | (simp [maxLen, F2] <;> omega)
     refine WK [(0, Lz v0), (1, Iz v1), (5, Iz v3), (40, AV.bool true)] [] 0 (by simp [F2]) (by simp [F2]) ?_
     refine CT (by simp [F2]) ?_
     refine SQ [] [none] fun _ _ g r => ?_
     try simp [F2]
     and_intros <;> first | exact g _ (by kernel_rfl) | refine r _ _ _ ?_ | omega | (simp [maxLen, F2] <;> omega)
     refine WK [(4, AV.bool false)] [] 0 (by simp [F2]) (by simp [F2]) ?_
     simp only [Option.some.injEq] at hF
     subst hF
     refine AW.ret (hQ _ _ _ ?_ (matchO_0 ?_)).1
     ·simp [Try.f58, F2]
     ·simp [F2]
    ·replace hF := ite_f h6 hF
     have h6_ := h6
     try simp at h6_
     by_cases h7 : 0 < v3
     ·replace hF := ite_t h7 hF
      have h7_ := h7
      try simp at h7_
      obtain ⟨v5, h8, h9, h10, hF⟩ := idx_elim hF
      have h10_ := get_of h10
      try simp at h10_
      have h9_ := h9
      try simp at h9_
      have F3 := And.intro h1 (And.intro h1_ (And.intro h2 (And.intro h3 (And.intro h4 (And.intro h4_ (And.intro h3_ (And.intro h5 (And.intro h5_ (And.intro h6 (And.intro h6_ (And.intro h7 (And.intro h7_ (And.intro h8 (And.intro h9 (And.intro h10 (And.intro h10_ h9_))))))))))))))))
      try simp [F3]
      and_intros <;> first | exact g _ (by kernel_rfl) | refine r _ _ _ ?_ | omega | (simp [maxLen, F3] <;> omega)
      refine WK [(0, Lz v0), (1, Iz v1), (5, Iz v3), (40, AV.bool (decide (v4 ≤ v5)))] [] 0 (by simp [F3]) (by simp [F3]) ?_
      by_cases h11 : v4 ≤ v5
      ·replace hF := ite_t h11 hF
       have h11_ := h11
       try simp at h11_
       have F4 := And.intro F3 (And.intro h11 h11_)
       refine CT (by simp [F4] <;> omega) ?_
       refine SQ [] [none] fun _ _ g r => ?_
       try simp [F4]
       and_intros <;> first | exact g _ (by kernel_rfl) | refine r _ _ _ ?_ | omega | (simp [maxLen, F4] <;> omega)
       refine WK [(4, AV.bool false)] [] 0 (by simp [F4]) (by simp [F4]) ?_
       simp only [Option.some.injEq] at hF
       subst hF
       refine AW.ret (hQ _ _ _ ?_ (matchO_0 ?_)).1
       ·simp [Try.f58, F4]
       ·simp [F4]
      ·replace hF := ite_f h11 hF
       have h11_ := h11
       try simp at h11_
       have F5 := And.intro F3 (And.intro h11 h11_)
       refine CF (by simp [F5] <;> omega) ?_
       refine AW.skip ?_
       refine hK201 _ _ _ ?_
       exact JN (()) hF (by simp [F5]) (by simp [F5])
     ·replace hF := ite_f h7 hF
      have h7_ := h7
      try simp at h7_
      have F6 := And.intro h1 (And.intro h1_ (And.intro h2 (And.intro h3 (And.intro h4 (And.intro h4_ (And.intro h3_ (And.intro h5 (And.intro h5_ (And.intro h6 (And.intro h6_ (And.intro h7 h7_)))))))))))
      try simp [F6]
      and_intros <;> first | exact g _ (by kernel_rfl) | refine r _ _ _ ?_ | omega | (simp [maxLen, F6] <;> omega)
      refine WK [(0, Lz v0), (1, Iz v1), (5, Iz v3), (40, AV.bool false)] [] 0 (by simp [F6]) (by simp [F6]) ?_
      refine CF (by simp [F6]) ?_
      refine AW.skip ?_
      refine hK201 _ _ _ ?_
      exact JN (()) hF (by simp [F6]) (by simp [F6])
  ·rintro ⟨⟩ hF
   try dsimp only at hF
   unfold ref11_Set.J2 at hF
   refine RG [] [none, none, none] fun _ _ g r => ?_
   try simp [h1, h1_]
   and_intros <;> first | exact g _ (by kernel_rfl) | refine r _ _ _ ?_ | omega | (simp [h1, h1_, maxLen] <;> omega)
   refine hK192 _ _ _ ?_
   exact NX (k' := n1) (IntKind.wrap .i64 (v3 + 1)) hF (by simp [h1, h1_]) (by simp [h1, h1_])
 ·replace hF := ite_f h1 hF
  have h1_ := h1
  try simp at h1_
  refine CF (by simp [h1, h1_] <;> omega) ?_
  refine AW.exit ?_
  try simp
  refine hK155 _ _ _ ?_
  refine SQ [] [none] fun _ _ g r => ?_
  try simp [h1, h1_]
  and_intros <;> first | exact g _ (by kernel_rfl) | refine r _ _ _ ?_ | omega | (simp [h1, h1_, maxLen] <;> omega)
  refine WK [(4, AV.bool true)] [] 0 (by simp [h1, h1_]) (by simp [h1, h1_]) ?_
  simp only [Option.some.injEq] at hF
  subst hF
  refine AW.ret (hQ _ _ _ ?_ (matchO_0 ?_)).1
  ·simp [Try.f58, h1, h1_]
  ·simp [h1, h1_]
theorem w_ref11_Has (k : Nat) (v0 : (List Int)) (v1 : Int) (v2 : Bool) (hF : ref11_Has k v0 v1 = some v2) :
  FCall Try.prog 24 [AV.lst false false (List.map (AV.int .i64) v0), AV.int .i64 v1] [] (AV.bool v2) [] := by
 unfold ref11_Has at hF
 refine EN Try.func24 ?_
 intro c0 w0 Q h0 hQ
 refine WK [(0, Lz v0), (1, Iz v1)] [] 0 (by simp) (by simp) ?_
 refine SQ [] [none] fun _ _ g r => ?_
 try simp
 and_intros <;> first | exact g _ (by kernel_rfl) | refine r _ _ _ ?_ | omega | (simp [maxLen] <;> omega)
 refine WK [(0, Lz v0), (1, Iz v1)] [] 0 (by simp) (by simp) ?_
 refine AW.seq fun K119 hK119 => ?_
 refine SQ [] [none] fun _ _ g r => ?_
 try simp
 and_intros <;> first | exact g _ (by kernel_rfl) | refine r _ _ _ ?_ | omega | (simp [maxLen] <;> omega)
 refine WK [(0, Lz v0), (1, Iz v1), (5, Iz 0)] [] 0 (by simp) (by simp) ?_
 refine AW.block ?_
 refine AW.loopF (α := Int) (fun n v3 => ref11_Has.L1 k v0 v1 n v3 = some v2) (fun v3 => [(0, Lz v0), (1, Iz v1), (5, Iz v3)]) (fun v3 => []) 0 k (0) hF (by simp) (by simp) (by simp) ?_
 rintro (_|n1) v3 hF K148 hK148
 ·try dsimp only at hF
  rw [ref11_Has.L1] at hF; cases hF
 try dsimp only at hF
 rw [ref11_Has.L1] at hF
 refine AW.seq fun K150 hK150 => ?_
 refine SQ [] [none, none, none, none] fun _ _ g r => ?_
 try simp
 and_intros <;> first | exact g _ (by kernel_rfl) | refine r _ _ _ ?_ | omega | (simp [maxLen] <;> omega)
 refine WK [(0, Lz v0), (1, Iz v1), (5, Iz v3), (9, AV.bool (decide (v3 < (v0.length : Int))))] [] 0 (by simp) (by simp) ?_
 by_cases h1 : v3 < (v0.length : Int)
 ·replace hF := ite_t h1 hF
  have h1_ := h1
  try simp at h1_
  refine CT (by simp [h1, h1_] <;> omega) ?_
  refine AW.skip ?_
  refine hK150 _ _ _ ?_
  refine AW.seq fun K154 hK154 => ?_
  refine AW.block ?_
  refine SQ [] [none, none, none, none, none, none] fun _ _ g r => ?_
  obtain ⟨v4, h2, h3, h4, hF⟩ := idx_elim hF
  have h4_ := get_of h4
  try simp at h4_
  have h3_ := h3
  try simp at h3_
  have F1 := And.intro h1 (And.intro h1_ (And.intro h2 (And.intro h3 (And.intro h4 (And.intro h4_ h3_)))))
  try simp [F1]
  and_intros <;> first | exact g _ (by kernel_rfl) | refine r _ _ _ ?_ | omega | (simp [maxLen, F1] <;> omega)
  refine WK [(0, Lz v0), (1, Iz v1), (5, Iz v3), (17, AV.bool (v4 == v1))] [] 0 (by simp [F1]) (by simp [F1]) ?_
  by_cases h5 : v4 = v1
  ·replace hF := ite_t h5 hF
   have h5q : v4 = v1 := h5
   have h5_ := eqb_t h5q
   have h5__ := neb_f h5q
   have F2 := And.intro F1 (And.intro h5_ h5__)
   refine CT (by simp [F2] <;> omega) ?_
   refine SQ [] [none] fun _ _ g r => ?_
   try simp [F2]
   and_intros <;> first | exact g _ (by kernel_rfl) | refine r _ _ _ ?_ | omega | (simp [maxLen, F2] <;> omega)
   refine WK [(4, AV.bool true)] [] 0 (by simp [F2]) (by simp [F2]) ?_
   simp only [Option.some.injEq] at hF
   subst hF
   refine AW.ret (hQ _ _ _ ?_ (matchO_0 ?_)).1
   ·simp [Try.f24, F2]
   ·simp [F2]
  ·replace hF := ite_f h5 hF
   have h5_ := eqb_f h5
   have h5__ := neb_t h5
   have F3 := And.intro F1 (And.intro h5 (And.intro h5_ h5__))
   refine CF (by simp [F3] <;> omega) ?_
   refine AW.skip ?_
   refine hK154 _ _ _ ?_
   refine RG [] [none, none, none] fun _ _ g r => ?_
   try simp [F3]
   and_intros <;> first | exact g _ (by kernel_rfl) | refine r _ _ _ ?_ | omega | (simp [maxLen, F3] <;> omega)
   refine hK148 _ _ _ ?_
   exact NX (k' := n1) (IntKind.wrap .i64 (v3 + 1)) hF (by simp [F3]) (by simp [F3])
 ·replace hF := ite_f h1 hF
  have h1_ := h1
  try simp at h1_
  refine CF (by simp [h1, h1_] <;> omega) ?_
  refine AW.exit ?_
  try simp
  refine hK119 _ _ _ ?_
  refine SQ [] [none] fun _ _ g r => ?_
  try simp [h1, h1_]
  and_intros <;> first | exact g _ (by kernel_rfl) | refine r _ _ _ ?_ | omega | (simp [h1, h1_, maxLen] <;> omega)
  refine WK [(4, AV.bool false)] [] 0 (by simp [h1, h1_]) (by simp [h1, h1_]) ?_
  simp only [Option.some.injEq] at hF
  subst hF
  refine AW.ret (hQ _ _ _ ?_ (matchO_0 ?_)).1
  ·simp [Try.f24, h1, h1_]
  ·simp [h1, h1_]
theorem w_ref11_before (k : Nat) (v0 : Int) (v1 : Int) (v2 : Int) (v3 : Int) (v4 : Int) (v5 : Int) (v6 : Bool) (hF : ref11_before k v0 v1 v2 v3 v4 v5 = some v6) :
  FCall Try.prog 59 [AV.agg [AV.int .i64 v0, AV.int .i64 v1, AV.int .i64 v2], AV.agg [AV.int .i64 v3, AV.int .i64 v4, AV.int .i64 v5]] [] (AV.bool v6) [] := by
 unfold ref11_before at hF
 refine EN Try.func59 ?_
 intro c0 w0 Q h0 hQ
 refine WK [(0, AV.agg [Iz v0, Iz v1, Iz v2]), (1, AV.agg [Iz v3, Iz v4, Iz v5])] [] 0 (by simp) (by simp) ?_
 refine SQ [] [none, none, none] fun _ _ g r => ?_
 try simp
 and_intros <;> first | exact g _ (by kernel_rfl) | refine r _ _ _ ?_ | omega | (simp [maxLen] <;> omega)
 refine WK [(2, AV.ptr 0 0), (3, AV.ptr 1 0)] [(0, .cells [Iz v0, Iz v1, Iz v2]), (1, .cells [Iz v3, Iz v4, Iz v5])] 2 (by simp) (by simp) ?_
 refine SQ [] [none, none, none, none, none, none, some (10, false), some (10, false), some (10, false), some (10, false), some (10, false), some (10, false), some (16, true), some (16, true), some (16, true), some (16, true), some (16, true), some (10, false), none, none] fun _ _ g r => ?_
 by_cases h1 : v0 < v3
 ·replace hF := ite_t h1 hF
  have h1_ := h1
  try simp at h1_
  try simp [h1, h1_]
  and_intros <;> first | exact g _ (by kernel_rfl) | refine r _ _ _ ?_ | omega | (simp [h1, h1_, maxLen] <;> omega)
  refine WK [(4, AV.bool true)] [] 2 (by simp [h1, h1_]) (by simp [h1, h1_]) ?_
  simp only [Option.some.injEq] at hF
  subst hF
  refine AW.ret (hQ _ _ _ ?_ (matchO_0 ?_)).1
  ·simp [Try.f59, h1, h1_]
  ·simp [h1, h1_]
 ·replace hF := ite_f h1 hF
  have h1_ := h1
  try simp at h1_
  by_cases h2 : v0 = v3
  ·replace hF := ite_t h2 hF
   have h2q : v0 = v3 := h2
   have h2_ := eqb_t h2q
   have h2__ := neb_f h2q
   have F1 := And.intro h1 (And.intro h1_ (And.intro h2_ h2__))
   try simp [F1]
   and_intros <;> first | exact g _ (by kernel_rfl) | refine r _ _ _ ?_ | omega | (simp [maxLen, F1] <;> omega)
   refine WK [(4, AV.bool (decide (v1 < v4)))] [] 2 (by simp [F1]) (by simp [F1]) ?_
   simp only [Option.some.injEq] at hF
   subst hF
   refine AW.ret (hQ _ _ _ ?_ (matchO_0 ?_)).1
   ·simp [Try.f59, F1]
   ·simp [F1]
  ·replace hF := ite_f h2 hF
   have h2_ := eqb_f h2
   have h2__ := neb_t h2
   have F2 := And.intro h1 (And.intro h1_ (And.intro h2 (And.intro h2_ h2__)))
   try simp [F2]
   and_intros <;> first | exact g _ (by kernel_rfl) | refine r _ _ _ ?_ | omega | (simp [maxLen, F2] <;> omega)
   refine WK [(4, AV.bool false)] [] 2 (by simp [F2]) (by simp [F2]) ?_
   simp only [Option.some.injEq] at hF
   subst hF
   refine AW.ret (hQ _ _ _ ?_ (matchO_0 ?_)).1
   ·simp [Try.f59, F2]
   ·simp [F2]
theorem w_ref11_Check (k : Nat) (v0 : Int) (v1 : (List api_Edge)) (v2 : (List Int)) (v3 : Int) (hF : ref11_Check k v0 v1 v2 = some v3) :
  FCall Try.prog 41 [AV.agg [AV.int .i64 v0, AV.lst false false (List.map api_Edge.av v1), AV.lst false false (List.map (AV.int .i64) v2)]] [] (AV.int .i64 v3) [] := by
 unfold ref11_Check at hF
 refine EN Try.func41 ?_
 intro c0 w0 Q h0 hQ
 refine WK [(0, AV.agg [Iz v0, AV.lst false false (List.map api_Edge.av v1), Lz v2])] [] 0 (by simp) (by simp) ?_
 refine SQ [] [none, none] fun _ _ g r => ?_
 try simp
 and_intros <;> first | exact g _ (by kernel_rfl) | refine r _ _ _ ?_ | omega | (simp [maxLen] <;> omega)
 refine WK [(1, AV.ptr 0 0)] [(0, .cells [Iz v0, AV.lst false false (List.map api_Edge.av v1), Lz v2])] 1 (by simp) (by simp) ?_
 refine AW.seq fun K401 hK401 => ?_
 refine SQ [] [none, none, none, none, some (8, false), some (8, false), some (8, false), none, none, some (13, false), some (13, false), some (13, false), some (13, false), none, none, some (19, false), some (19, false), some (19, false), some (19, false), some (19, false), some (19, false), none] fun _ _ g r => ?_
 by_cases h1 : v0 < 0
 ·replace hF := ite_t h1 hF
  have h1_ := h1
  try simp at h1_
  try simp [h1, h1_]
  and_intros <;> first | exact g _ (by kernel_rfl) | refine r _ _ _ ?_ | omega | (simp [h1, h1_, maxLen] <;> omega)
  refine WK [(1, AV.ptr 0 0), (26, AV.bool true)] [(0, .cells [Iz v0, AV.lst false false (List.map api_Edge.av v1), Lz v2])] 1 (by simp [h1, h1_]) (by simp [h1, h1_]) ?_
  refine CT (by simp [h1, h1_]) ?_
  refine SQ [] [none] fun _ _ g r => ?_
  try simp [h1, h1_]
  and_intros <;> first | exact g _ (by kernel_rfl) | refine r _ _ _ ?_ | omega | (simp [h1, h1_, maxLen] <;> omega)
  refine WK [(2, Iz 14)] [] 1 (by simp [h1, h1_]) (by simp [h1, h1_]) ?_
  simp only [Option.some.injEq] at hF
  subst hF
  refine AW.ret (hQ _ _ _ ?_ (matchO_0 ?_)).1
  ·simp [Try.f41, h1, h1_]
  ·simp [h1, h1_]
 ·replace hF := ite_f h1 hF
  have h1_ := h1
  try simp at h1_
  by_cases h2 : 64 < v0
  ·replace hF := ite_t h2 hF
   have h2_ := h2
   try simp at h2_
   have F1 := And.intro h1 (And.intro h1_ (And.intro h2 h2_))
   try simp [F1]
   and_intros <;> first | exact g _ (by kernel_rfl) | refine r _ _ _ ?_ | omega | (simp [maxLen, F1] <;> omega)
   refine WK [(1, AV.ptr 0 0), (26, AV.bool true)] [(0, .cells [Iz v0, AV.lst false false (List.map api_Edge.av v1), Lz v2])] 1 (by simp [F1]) (by simp [F1]) ?_
   refine CT (by simp [F1]) ?_
   refine SQ [] [none] fun _ _ g r => ?_
   try simp [F1]
   and_intros <;> first | exact g _ (by kernel_rfl) | refine r _ _ _ ?_ | omega | (simp [maxLen, F1] <;> omega)
   refine WK [(2, Iz 14)] [] 1 (by simp [F1]) (by simp [F1]) ?_
   simp only [Option.some.injEq] at hF
   subst hF
   refine AW.ret (hQ _ _ _ ?_ (matchO_0 ?_)).1
   ·simp [Try.f41, F1]
   ·simp [F1]
  ·replace hF := ite_f h2 hF
   have h2_ := h2
   try simp at h2_
   by_cases h3 : 500 < (v1.length : Int)
   ·replace hF := ite_t h3 hF
    have h3_ := h3
    try simp at h3_
    have F2 := And.intro h1 (And.intro h1_ (And.intro h2 (And.intro h2_ (And.intro h3 h3_))))
    try simp [F2]
    and_intros <;> first | exact g _ (by kernel_rfl) | refine r _ _ _ ?_ | omega | (simp [maxLen, F2] <;> omega)
    refine WK [(1, AV.ptr 0 0), (26, AV.bool true)] [(0, .cells [Iz v0, AV.lst false false (List.map api_Edge.av v1), Lz v2])] 1 (by simp [F2]) (by simp [F2]) ?_
    refine CT (by simp [F2]) ?_
    refine SQ [] [none] fun _ _ g r => ?_
    try simp [F2]
    and_intros <;> first | exact g _ (by kernel_rfl) | refine r _ _ _ ?_ | omega | (simp [maxLen, F2] <;> omega)
    refine WK [(2, Iz 14)] [] 1 (by simp [F2]) (by simp [F2]) ?_
    simp only [Option.some.injEq] at hF
    subst hF
    refine AW.ret (hQ _ _ _ ?_ (matchO_0 ?_)).1
    ·simp [Try.f41, F2]
    ·simp [F2]
   ·replace hF := ite_f h3 hF
    have h3_ := h3
    try simp at h3_
    have F3 := And.intro h1 (And.intro h1_ (And.intro h2 (And.intro h2_ (And.intro h3 h3_))))
    try simp [F3]
    and_intros
    try any_goals first | omega | (simp [maxLen, F3] <;> omega)
    obtain ⟨v4, h4, hF⟩ := bnd1_elim hF
    refine AC (w_ref11_Set k _ _ _ h4) (.cons (.same (by simp [F3])) (.cons (.same (by simp [F3])) .nil)) ?_
    try simp [F3]
    and_intros <;> first | exact g _ (by kernel_rfl) | refine r _ _ _ ?_ | omega | (simp [maxLen, F3] <;> omega)
    refine WK [(1, AV.ptr 0 0), (26, AV.bool (!v4))] [(0, .cells [Iz v0, AV.lst false false (List.map api_Edge.av v1), Lz v2])] 1 (by simp [F3]) (by simp [F3]) ?_
    by_cases h5 : (!v4) = true
    ·replace hF := ite_t h5 hF
     have h5_ := h5
     try simp at h5_
     have F4 := And.intro F3 (And.intro h5 h5_)
     refine CT (by simp [F4] <;> omega) ?_
     refine SQ [] [none] fun _ _ g r => ?_
     try simp [F4]
     and_intros <;> first | exact g _ (by kernel_rfl) | refine r _ _ _ ?_ | omega | (simp [maxLen, F4] <;> omega)
     refine WK [(2, Iz 14)] [] 1 (by simp [F4]) (by simp [F4]) ?_
     simp only [Option.some.injEq] at hF
     subst hF
     refine AW.ret (hQ _ _ _ ?_ (matchO_0 ?_)).1
     ·simp [Try.f41, F4]
     ·simp [F4]
    ·replace hF := ite_f h5 hF
     have h5_ := h5
     try simp at h5_
     have F5 := And.intro F3 (And.intro h5 h5_)
     refine CF (by simp [F5] <;> omega) ?_
     refine AW.skip ?_
     refine hK401 _ _ _ ?_
     refine AW.seq fun K597 hK597 => ?_
     refine SQ [] [none] fun _ _ g r => ?_
     try simp [F5]
     and_intros <;> first | exact g _ (by kernel_rfl) | refine r _ _ _ ?_ | omega | (simp [maxLen, F5] <;> omega)
     refine WK [(1, AV.ptr 0 0), (3, Iz 0)] [(0, .cells [Iz v0, AV.lst false false (List.map api_Edge.av v1), Lz v2])] 1 (by simp [F5]) (by simp [F5]) ?_
     refine AW.block ?_
     refine AW.loopF (α := Int) (fun n v5 => ref11_Check.L1 k v0 v1 v2 n v5 = some v3) (fun v5 => [(1, AV.ptr 0 0), (3, Iz v5)]) (fun v5 => [(0, .cells [Iz v0, AV.lst false false (List.map api_Edge.av v1), Lz v2])]) 1 k (0) hF (by simp [F5]) (by simp [F5]) (by simp) ?_
     rintro (_|n1) v5 hF K740 hK740
     ·try dsimp only at hF
      rw [ref11_Check.L1] at hF; cases hF
     try dsimp only at hF
     rw [ref11_Check.L1] at hF
     refine AW.seq fun K742 hK742 => ?_
     refine SQ [] [none, none, none, none, none] fun _ _ g r => ?_
     try simp [F5]
     and_intros <;> first | exact g _ (by kernel_rfl) | refine r _ _ _ ?_ | omega | (simp [maxLen, F5] <;> omega)
     refine WK [(1, AV.ptr 0 0), (3, Iz v5), (31, AV.bool (decide (v5 < (v1.length : Int))))] [(0, .cells [Iz v0, AV.lst false false (List.map api_Edge.av v1), Lz v2])] 1 (by simp [F5]) (by simp [F5]) ?_
     by_cases h6 : v5 < (v1.length : Int)
     ·replace hF := ite_t h6 hF
      have h6_ := h6
      try simp at h6_
      have F6 := And.intro F5 (And.intro h6 h6_)
      refine CT (by simp [F6] <;> omega) ?_
      refine AW.skip ?_
      refine hK742 _ _ _ ?_
      refine AW.seq fun K765 hK765 => ?_
      refine AW.block ?_
      refine SQ [] [none, none, none, none, none, none, none] fun _ _ g r => ?_
      obtain ⟨v6, h7, h8, h9, hF⟩ := idx_elim hF
      have h9_ := get_of h9
      try simp at h9_
      have h8_ := h8
      try simp at h8_
      have F7 := And.intro F6 (And.intro h7 (And.intro h8 (And.intro h9 (And.intro h9_ h8_))))
      try simp [F7]
      and_intros <;> first | exact g _ (by kernel_rfl) | refine r _ _ _ ?_ | omega | (simp [maxLen, F7] <;> omega)
      refine WK [(1, AV.ptr 0 0), (3, Iz v5), (4, AV.ptr 1 0)] [(0, .cells [Iz v0, AV.lst false false (List.map api_Edge.av v1), Lz v2]), (1, .cells [Iz v6.From, Iz v6.To, Iz v6.Level])] 2 (by simp [F7]) (by simp [F7]) ?_
      refine AW.seq fun K775 hK775 => ?_
      refine SQ [] [none, none, none, none, some (42, false), some (42, false), some (42, false), some (42, false), some (42, false), none, none, some (49, false), some (49, false), some (49, false), none, none, some (54, false), some (54, false), some (54, false), some (54, false), some (54, false), none, none, some (61, false), some (61, false), some (61, false), some (61, false), some (61, false), none, none, some (68, false), some (68, false), some (68, false), none, none, some (73, false), some (73, false), some (73, false), none] fun _ _ g r => ?_
      by_cases h10 : v6.From < 0
      ·replace hF := ite_t h10 hF
       have h10_ := h10
       try simp at h10_
       have F8 := And.intro F7 (And.intro h10 h10_)
       try simp [F8]
       and_intros <;> first | exact g _ (by kernel_rfl) | refine r _ _ _ ?_ | omega | (simp [maxLen, F8] <;> omega)
       refine WK [(1, AV.ptr 0 0), (3, Iz v5), (4, AV.ptr 1 0), (77, AV.bool true)] [(0, .cells [Iz v0, AV.lst false false (List.map api_Edge.av v1), Lz v2]), (1, .cells [Iz v6.From, Iz v6.To, Iz v6.Level])] 2 (by simp [F8]) (by simp [F8]) ?_
       refine CT (by simp [F8]) ?_
       refine SQ [] [none] fun _ _ g r => ?_
       try simp [F8]
       and_intros <;> first | exact g _ (by kernel_rfl) | refine r _ _ _ ?_ | omega | (simp [maxLen, F8] <;> omega)
       refine WK [(2, Iz 14)] [] 2 (by simp [F8]) (by simp [F8]) ?_
       simp only [Option.some.injEq] at hF
       subst hF
       refine AW.ret (hQ _ _ _ ?_ (matchO_0 ?_)).1
       ·simp [Try.f41, F8]
       ·simp [F8]
      ·replace hF := ite_f h10 hF
       have h10_ := h10
       try simp at h10_
       by_cases h11 : v0 ≤ v6.From
       ·replace hF := ite_t h11 hF
        have h11_ := h11
        try simp at h11_
        have F9 := And.intro F7 (And.intro h10 (And.intro h10_ (And.intro h11 h11_)))
        try simp [F9]
        and_intros <;> first | exact g _ (by kernel_rfl) | refine r _ _ _ ?_ | omega | (simp [maxLen, F9] <;> omega)
        refine WK [(1, AV.ptr 0 0), (3, Iz v5), (4, AV.ptr 1 0), (77, AV.bool true)] [(0, .cells [Iz v0, AV.lst false false (List.map api_Edge.av v1), Lz v2]), (1, .cells [Iz v6.From, Iz v6.To, Iz v6.Level])] 2 (by simp [F9]) (by simp [F9]) ?_
        refine CT (by simp [F9]) ?_
        refine SQ [] [none] fun _ _ g r => ?_
        try simp [F9]
        and_intros <;> first | exact g _ (by kernel_rfl) | refine r _ _ _ ?_ | omega | (simp [maxLen, F9] <;> omega)
        refine WK [(2, Iz 14)] [] 2 (by simp [F9]) (by simp [F9]) ?_
        simp only [Option.some.injEq] at hF
        subst hF
        refine AW.ret (hQ _ _ _ ?_ (matchO_0 ?_)).1
        ·simp [Try.f41, F9]
        ·simp [F9]
       ·replace hF := ite_f h11 hF
        have h11_ := h11
        try simp at h11_
        by_cases h12 : v6.To < 0
        ·replace hF := ite_t h12 hF
         have h12_ := h12
         try simp at h12_
         have F10 := And.intro F7 (And.intro h10 (And.intro h10_ (And.intro h11 (And.intro h11_ (And.intro h12 h12_)))))
         try simp [F10]
         and_intros <;> first | exact g _ (by kernel_rfl) | refine r _ _ _ ?_ | omega | (simp [maxLen, F10] <;> omega)
         refine WK [(1, AV.ptr 0 0), (3, Iz v5), (4, AV.ptr 1 0), (77, AV.bool true)] [(0, .cells [Iz v0, AV.lst false false (List.map api_Edge.av v1), Lz v2]), (1, .cells [Iz v6.From, Iz v6.To, Iz v6.Level])] 2 (by simp [F10]) (by simp [F10]) ?_
         refine CT (by simp [F10]) ?_
         refine SQ [] [none] fun _ _ g r => ?_
         try simp [F10]
         and_intros <;> first | exact g _ (by kernel_rfl) | refine r _ _ _ ?_ | omega | (simp [maxLen, F10] <;> omega)
         refine WK [(2, Iz 14)] [] 2 (by simp [F10]) (by simp [F10]) ?_
         simp only [Option.some.injEq] at hF
         subst hF
         refine AW.ret (hQ _ _ _ ?_ (matchO_0 ?_)).1
         ·simp [Try.f41, F10]
         ·simp [F10]
        ·replace hF := ite_f h12 hF
         have h12_ := h12
         try simp at h12_
         by_cases h13 : v0 ≤ v6.To
         ·replace hF := ite_t h13 hF
          have h13_ := h13
          try simp at h13_
          have F11 := And.intro F7 (And.intro h10 (And.intro h10_ (And.intro h11 (And.intro h11_ (And.intro h12 (And.intro h12_ (And.intro h13 h13_)))))))
          try simp [F11]
          and_intros <;> first | exact g _ (by kernel_rfl) | refine r _ _ _ ?_ | omega | (simp [maxLen, F11] <;> omega)
          refine WK [(1, AV.ptr 0 0), (3, Iz v5), (4, AV.ptr 1 0), (77, AV.bool true)] [(0, .cells [Iz v0, AV.lst false false (List.map api_Edge.av v1), Lz v2]), (1, .cells [Iz v6.From, Iz v6.To, Iz v6.Level])] 2 (by simp [F11]) (by simp [F11]) ?_
          refine CT (by simp [F11]) ?_
          refine SQ [] [none] fun _ _ g r => ?_
          try simp [F11]
          and_intros <;> first | exact g _ (by kernel_rfl) | refine r _ _ _ ?_ | omega | (simp [maxLen, F11] <;> omega)
          refine WK [(2, Iz 14)] [] 2 (by simp [F11]) (by simp [F11]) ?_
          simp only [Option.some.injEq] at hF
          subst hF
          refine AW.ret (hQ _ _ _ ?_ (matchO_0 ?_)).1
          ·simp [Try.f41, F11]
          ·simp [F11]
         ·replace hF := ite_f h13 hF
          have h13_ := h13
          try simp at h13_
          by_cases h14 : v6.From = v6.To
          ·replace hF := ite_t h14 hF
           have h14q : v6.From = v6.To := h14
           have h14_ := eqb_t h14q
           have h14__ := neb_f h14q
           have F12 := And.intro F7 (And.intro h10 (And.intro h10_ (And.intro h11 (And.intro h11_ (And.intro h12 (And.intro h12_ (And.intro h13 (And.intro h13_ (And.intro h14_ h14__)))))))))
           try simp [F12]
           and_intros <;> first | exact g _ (by kernel_rfl) | refine r _ _ _ ?_ | omega | (simp [maxLen, F12] <;> omega)
           refine WK [(1, AV.ptr 0 0), (3, Iz v5), (4, AV.ptr 1 0), (77, AV.bool true)] [(0, .cells [Iz v0, AV.lst false false (List.map api_Edge.av v1), Lz v2]), (1, .cells [Iz v6.From, Iz v6.To, Iz v6.Level])] 2 (by simp [F12]) (by simp [F12]) ?_
           refine CT (by simp [F12]) ?_
           refine SQ [] [none] fun _ _ g r => ?_
           try simp [F12]
           and_intros <;> first | exact g _ (by kernel_rfl) | refine r _ _ _ ?_ | omega | (simp [maxLen, F12] <;> omega)
           refine WK [(2, Iz 14)] [] 2 (by simp [F12]) (by simp [F12]) ?_
           simp only [Option.some.injEq] at hF
           subst hF
           refine AW.ret (hQ _ _ _ ?_ (matchO_0 ?_)).1
           ·simp [Try.f41, F12]
           ·simp [F12]
          ·replace hF := ite_f h14 hF
           have h14_ := eqb_f h14
           have h14__ := neb_t h14
           by_cases h15 : v6.Level < 1
           ·replace hF := ite_t h15 hF
            have h15_ := h15
            try simp at h15_
            have F13 := And.intro F7 (And.intro h10 (And.intro h10_ (And.intro h11 (And.intro h11_ (And.intro h12 (And.intro h12_ (And.intro h13 (And.intro h13_ (And.intro h14 (And.intro h14_ (And.intro h14__ (And.intro h15 h15_))))))))))))
            try simp [F13]
            and_intros <;> first | exact g _ (by kernel_rfl) | refine r _ _ _ ?_ | omega | (simp [maxLen, F13] <;> omega)
            refine WK [(1, AV.ptr 0 0), (3, Iz v5), (4, AV.ptr 1 0), (77, AV.bool true)] [(0, .cells [Iz v0, AV.lst false false (List.map api_Edge.av v1), Lz v2]), (1, .cells [Iz v6.From, Iz v6.To, Iz v6.Level])] 2 (by simp [F13]) (by simp [F13]) ?_
            refine CT (by simp [F13]) ?_
            refine SQ [] [none] fun _ _ g r => ?_
            try simp [F13]
            and_intros <;> first | exact g _ (by kernel_rfl) | refine r _ _ _ ?_ | omega | (simp [maxLen, F13] <;> omega)
            refine WK [(2, Iz 14)] [] 2 (by simp [F13]) (by simp [F13]) ?_
            simp only [Option.some.injEq] at hF
            subst hF
            refine AW.ret (hQ _ _ _ ?_ (matchO_0 ?_)).1
            ·simp [Try.f41, F13]
            ·simp [F13]
           ·replace hF := ite_f h15 hF
            have h15_ := h15
            try simp at h15_
            have F14 := And.intro F7 (And.intro h10 (And.intro h10_ (And.intro h11 (And.intro h11_ (And.intro h12 (And.intro h12_ (And.intro h13 (And.intro h13_ (And.intro h14 (And.intro h14_ (And.intro h14__ (And.intro h15 h15_))))))))))))
            try simp [F14]
            and_intros <;> first | exact g _ (by kernel_rfl) | refine r _ _ _ ?_ | omega | (simp [maxLen, F14] <;> omega)
            refine WK [(1, AV.ptr 0 0), (3, Iz v5), (4, AV.ptr 1 0), (77, AV.bool (decide (3 < v6.Level)))] [(0, .cells [Iz v0, AV.lst false false (List.map api_Edge.av v1), Lz v2]), (1, .cells [Iz v6.From, Iz v6.To, Iz v6.Level])] 2 (by simp [F14]) (by simp [F14]) ?_
            by_cases h16 : 3 < v6.Level
            ·replace hF := ite_t h16 hF
             have h16_ := h16
             try simp at h16_
             have F15 := And.intro F14 (And.intro h16 h16_)
             refine CT (by simp [F15] <;> omega) ?_
             refine SQ [] [none] fun _ _ g r => ?_
             try simp [F15]
             and_intros <;> first | exact g _ (by kernel_rfl) | refine r _ _ _ ?_ | omega | (simp [maxLen, F15] <;> omega)
             refine WK [(2, Iz 14)] [] 2 (by simp [F15]) (by simp [F15]) ?_
             simp only [Option.some.injEq] at hF
             subst hF
             refine AW.ret (hQ _ _ _ ?_ (matchO_0 ?_)).1
             ·simp [Try.f41, F15]
             ·simp [F15]
            ·replace hF := ite_f h16 hF
             have h16_ := h16
             try simp at h16_
             have F16 := And.intro F14 (And.intro h16 h16_)
             refine CF (by simp [F16] <;> omega) ?_
             refine AW.skip ?_
             refine hK775 _ _ _ ?_
             refine AW.midF (α := Bool) (fun v7 => ref11_Check.J2 k v5 (fun v5_ => ref11_Check.L1 k v0 v1 v2 n1 v5_) v7 = some v3) (fun v7 => [(1, AV.ptr 0 0), (3, Iz v5), (104, AV.bool v7)]) (fun v7 => [(0, .cells [Iz v0, AV.lst false false (List.map api_Edge.av v1), Lz v2])]) 1 (fun K787 hK787 => ?_) ?_
             ·refine RG [] [none, none, none, some (80, true), some (80, true), some (80, true), some (80, true), some (80, true), some (80, true), some (80, true), some (80, true), some (80, true), none, none, some (91, false), some (91, false), some (91, false), some (91, false), some (91, false), none, none, some (98, false), some (98, false), some (98, false), some (98, false), some (98, false), none] fun _ _ g r => ?_
              by_cases h18 : 0 < v5
              ·replace hF := ite_t h18 hF
               have h18_ := h18
               try simp at h18_
               obtain ⟨v8, h19, h20, h21, hF⟩ := idx_elim hF
               have h21_ := get_of h21
               try simp at h21_
               have h20_ := h20
               try simp at h20_
               have F17 := And.intro F16 (And.intro h18 (And.intro h18_ (And.intro h19 (And.intro h20 (And.intro h21 (And.intro h21_ h20_))))))
               try simp [F17]
               and_intros
               try any_goals first | omega | (simp [maxLen, F17] <;> omega)
               obtain ⟨v9, h22, hF⟩ := bnd1_elim hF
               refine AC (w_ref11_before k _ _ _ _ _ _ _ h22) (.cons (.same (by simp [F17])) (.cons (.same (by simp [F17])) .nil)) ?_
               by_cases h23 : (!v9) = true
               ·replace hF := ite_t h23 hF
                have h23_ := h23
                try simp at h23_
                have F18 := And.intro F17 (And.intro h23 h23_)
                try simp [F18]
                and_intros <;> first | exact g _ (by kernel_rfl) | refine r _ _ _ ?_ | omega | (simp [maxLen, F18] <;> omega)
                refine hK787 _ _ _ ?_
                refine RN h0 [(0, 0)] [(1, AV.ptr 0 0), (3, Iz v5), (104, AV.bool true)] [(0, .cells [Iz v0, AV.lst false false (List.map api_Edge.av v1), Lz v2])] 1 (by simp [F18]) (by simp [F18]) ?_
                exact JN (true) hF (by simp [F18]) (by simp [F18])
               ·replace hF := ite_f h23 hF
                have h23_ := h23
                try simp at h23_
                have F19 := And.intro F17 (And.intro h23 h23_)
                try simp [F19]
                and_intros
                try any_goals first | omega | (simp [maxLen, F19] <;> omega)
                obtain ⟨v10, h24, hF⟩ := bnd1_elim hF
                refine AC (w_ref11_Has k _ _ _ h24) (.cons (.same (by simp [F19])) (.cons (.same (by simp [F19])) .nil)) ?_
                by_cases h25 : v10 = true
                ·replace hF := ite_t h25 hF
                 have h25_ := h25
                 try simp at h25_
                 have F20 := And.intro F19 (And.intro h25 h25_)
                 try simp [F20]
                 and_intros <;> first | exact g _ (by kernel_rfl) | refine r _ _ _ ?_ | omega | (simp [maxLen, F20] <;> omega)
                 refine hK787 _ _ _ ?_
                 refine RN h0 [(0, 0)] [(1, AV.ptr 0 0), (3, Iz v5), (104, AV.bool true)] [(0, .cells [Iz v0, AV.lst false false (List.map api_Edge.av v1), Lz v2])] 1 (by simp [F20]) (by simp [F20]) ?_
                 exact JN (true) hF (by simp [F20]) (by simp [F20])
                ·replace hF := ite_f h25 hF
                 have h25_ := h25
                 try simp at h25_
                 have F21 := And.intro F19 (And.intro h25 h25_)
                 try simp [F21]
                 and_intros
                 try any_goals first | omega | (simp [maxLen, F21] <;> omega)
                 obtain ⟨v11, h26, hF⟩ := bnd1_elim hF
                 refine AC (w_ref11_Has k _ _ _ h26) (.cons (.same (by simp [F21])) (.cons (.same (by simp [F21])) .nil)) ?_
                 try simp [F21]
                 and_intros <;> first | exact g _ (by kernel_rfl) | refine r _ _ _ ?_ | omega | (simp [maxLen, F21] <;> omega)
                 refine hK787 _ _ _ ?_
                 refine RN h0 [(0, 0)] [(1, AV.ptr 0 0), (3, Iz v5), (104, AV.bool v11)] [(0, .cells [Iz v0, AV.lst false false (List.map api_Edge.av v1), Lz v2])] 1 (by simp [F21]) (by simp [F21]) ?_
                 exact JN (v11) hF (by simp [F21]) (by simp [F21])
              ·replace hF := ite_f h18 hF
               have h18_ := h18
               try simp at h18_
               have F22 := And.intro F16 (And.intro h18 h18_)
               try simp [F22]
               and_intros
               try any_goals first | omega | (simp [maxLen, F22] <;> omega)
               obtain ⟨v12, h27, hF⟩ := bnd1_elim hF
               refine AC (w_ref11_Has k _ _ _ h27) (.cons (.same (by simp [F22])) (.cons (.same (by simp [F22])) .nil)) ?_
               by_cases h28 : v12 = true
               ·replace hF := ite_t h28 hF
                have h28_ := h28
                try simp at h28_
                have F23 := And.intro F22 (And.intro h28 h28_)
                try simp [F23]
                and_intros <;> first | exact g _ (by kernel_rfl) | refine r _ _ _ ?_ | omega | (simp [maxLen, F23] <;> omega)
                refine hK787 _ _ _ ?_
                refine RN h0 [(0, 0)] [(1, AV.ptr 0 0), (3, Iz v5), (104, AV.bool true)] [(0, .cells [Iz v0, AV.lst false false (List.map api_Edge.av v1), Lz v2])] 1 (by simp [F23]) (by simp [F23]) ?_
                exact JN (true) hF (by simp [F23]) (by simp [F23])
               ·replace hF := ite_f h28 hF
                have h28_ := h28
                try simp at h28_
                have F24 := And.intro F22 (And.intro h28 h28_)
                try simp [F24]
                and_intros
                try any_goals first | omega | (simp [maxLen, F24] <;> omega)
                obtain ⟨v13, h29, hF⟩ := bnd1_elim hF
                refine AC (w_ref11_Has k _ _ _ h29) (.cons (.same (by simp [F24])) (.cons (.same (by simp [F24])) .nil)) ?_
                try simp [F24]
                and_intros <;> first | exact g _ (by kernel_rfl) | refine r _ _ _ ?_ | omega | (simp [maxLen, F24] <;> omega)
                refine hK787 _ _ _ ?_
                refine RN h0 [(0, 0)] [(1, AV.ptr 0 0), (3, Iz v5), (104, AV.bool v13)] [(0, .cells [Iz v0, AV.lst false false (List.map api_Edge.av v1), Lz v2])] 1 (by simp [F24]) (by simp [F24]) ?_
                exact JN (v13) hF (by simp [F24]) (by simp [F24])
             ·rintro v7 hF
              try dsimp only at hF
              unfold ref11_Check.J2 at hF
              by_cases h17 : v7 = true
              ·replace hF := ite_t h17 hF
               have h17_ := h17
               try simp at h17_
               have F25 := And.intro F16 (And.intro h17 h17_)
               refine CT (by simp [F25] <;> omega) ?_
               refine SQ [] [none] fun _ _ g r => ?_
               try simp [F25]
               and_intros <;> first | exact g _ (by kernel_rfl) | refine r _ _ _ ?_ | omega | (simp [maxLen, F25] <;> omega)
               refine WK [(2, Iz 14)] [] 1 (by simp [F25]) (by simp [F25]) ?_
               simp only [Option.some.injEq] at hF
               subst hF
               refine AW.ret (hQ _ _ _ ?_ (matchO_0 ?_)).1
               ·simp [Try.f41, F25]
               ·simp [F25]
              ·replace hF := ite_f h17 hF
               have h17_ := h17
               try simp at h17_
               have F26 := And.intro F16 (And.intro h17 h17_)
               refine CF (by simp [F26] <;> omega) ?_
               refine AW.skip ?_
               refine hK765 _ _ _ ?_
               refine RG [] [none, none, none] fun _ _ g r => ?_
               try simp [F26]
               and_intros <;> first | exact g _ (by kernel_rfl) | refine r _ _ _ ?_ | omega | (simp [maxLen, F26] <;> omega)
               refine hK740 _ _ _ ?_
               exact NX (k' := n1) (IntKind.wrap .i64 (v5 + 1)) hF (by simp [F26]) (by simp [F26])
     ·replace hF := ite_f h6 hF
      have h6_ := h6
      try simp at h6_
      have F27 := And.intro F5 (And.intro h6 h6_)
      refine CF (by simp [F27] <;> omega) ?_
      refine AW.exit ?_
      try simp
      refine hK597 _ _ _ ?_
      refine SQ [] [none] fun _ _ g r => ?_
      try simp [F27]
      and_intros <;> first | exact g _ (by kernel_rfl) | refine r _ _ _ ?_ | omega | (simp [maxLen, F27] <;> omega)
      refine WK [(2, Iz 0)] [] 1 (by simp [F27]) (by simp [F27]) ?_
      simp only [Option.some.injEq] at hF
      subst hF
      refine AW.ret (hQ _ _ _ ?_ (matchO_0 ?_)).1
      ·simp [Try.f41, F27]
      ·simp [F27]
end Go.TF
