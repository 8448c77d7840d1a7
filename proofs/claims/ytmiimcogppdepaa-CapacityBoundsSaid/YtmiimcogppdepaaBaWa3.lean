/- Walks: the Go text computes the Lean functions (printed by a program of our own). -/
import Derived.Test.YtmiimcogppdepaaBaPu
import Derived.Test.YtmiimcogppdepaaBaAbsT
import Derived.Test.YtmiimcogppdepaaBaWa0
import Derived.Test.YtmiimcogppdepaaBaWa1
import Derived.Test.YtmiimcogppdepaaBaWa2
set_option linter.unusedVariables false
set_option linter.unusedSimpArgs false
set_option maxRecDepth 100000
set_option maxHeartbeats 4000000
namespace Go.TF
open Go Go.Abs Go.Proofs Go.Proofs.YtmiimcogppdepaaBaT
theorem w_capacity_Bound_1 (k : Nat) (v0 : Int) (v1 : (List Int)) (v2 : Bool) (hF : capacity_Bound_1 k v0 v1 = some v2) :
  FCall Try.prog 48 [AV.int .i64 v0, AV.ptr 0 0] [.cells [AV.lst false false (List.map (AV.int .i64) v1)]] (AV.bool v2) [some (.cells [AV.lst false false (List.map (AV.int .i64) v1)])] := by
 unfold capacity_Bound_1 at hF
 refine EN Try.func48 ?_
 intro c0 w0 Q h0 hQ
 refine WK [(0, Iz v0), (1, AV.ptr 0 0)] [(0, .cells [Lz v1])] 1 (by simp) (by simp) ?_
 refine SQ [] [none] fun _ _ g r => ?_
 try simp
 and_intros <;> first | exact g _ (by kernel_rfl) | refine r _ _ _ ?_ | omega | (simp [maxLen] <;> omega)
 refine WK [(0, Iz v0), (1, AV.ptr 0 0)] [(0, .cells [Lz v1])] 1 (by simp) (by simp) ?_
 refine SQ [] [none, none, none, none] fun _ _ g r => ?_
 try simp
 and_intros
 try any_goals first | omega | (simp [maxLen] <;> omega)
 obtain ⟨v3, h1, hF⟩ := bnd1_elim hF
 refine AC (w_slices_Contains_int_int k _ _ _ h1) (.cons (.same (by simp)) (.cons (.same (by simp)) .nil)) ?_
 try simp
 and_intros <;> first | exact g _ (by kernel_rfl) | refine r _ _ _ ?_ | omega | (simp [maxLen] <;> omega)
 refine WK [(3, AV.bool v3)] [(0, .cells [Lz v1])] 1 (by simp) (by simp) ?_
 simp only [Option.some.injEq] at hF
 subst hF
 refine AW.ret (hQ _ _ _ ?_ (matchO_0 ?_)).1
 ·simp [Try.f48]
 ·simp
theorem w_slices_IndexFunc_int_int_Bound_1 (k : Nat) (v0 : (List Int)) (v1 : (List Int)) (v2 : Int) (hF : slices_IndexFunc_int_int_Bound_1 k v0 v1 = some v2) :
  FCall Try.prog 70 [AV.lst false false (List.map (AV.int .i64) v0), AV.fn 48 [AV.ptr 0 0]] [.cells [AV.lst false false (List.map (AV.int .i64) v1)]] (AV.int .i64 v2) [some (.cells [AV.lst false false (List.map (AV.int .i64) v1)])] := by
 unfold slices_IndexFunc_int_int_Bound_1 at hF
 refine EN Try.func70 ?_
 intro c0 w0 Q h0 hQ
 refine WK [(0, Lz v0), (1, AV.fn 48 [AV.ptr 0 0])] [(0, .cells [Lz v1])] 1 (by simp) (by simp) ?_
 refine SQ [] [none] fun _ _ g r => ?_
 try simp
 and_intros <;> first | exact g _ (by kernel_rfl) | refine r _ _ _ ?_ | omega | (simp [maxLen] <;> omega)
 refine WK [(0, Lz v0), (1, AV.fn 48 [AV.ptr 0 0])] [(0, .cells [Lz v1])] 1 (by simp) (by simp) ?_
 refine AW.seq fun K131 hK131 => ?_
 refine SQ [] [none, none, none] fun _ _ g r => ?_
 try simp
 and_intros <;> first | exact g _ (by kernel_rfl) | refine r _ _ _ ?_ | omega | (simp [maxLen] <;> omega)
 refine WK [(0, Lz v0), (1, AV.fn 48 [AV.ptr 0 0]), (7, Iz (v0.length : Int)), (8, Iz 0)] [(0, .cells [Lz v1])] 1 (by simp) (by simp) ?_
 refine AW.block ?_
 refine AW.loopF (α := Int) (fun n v3 => slices_IndexFunc_int_int_Bound_1.L1 k v0 v1 n v3 = some v2) (fun v3 => [(0, Lz v0), (1, AV.fn 48 [AV.ptr 0 0]), (7, Iz (v0.length : Int)), (8, Iz v3)]) (fun v3 => [(0, .cells [Lz v1])]) 1 k (0) hF (by simp) (by simp) (by simp) ?_
 rintro (_|n1) v3 hF K163 hK163
 ·try dsimp only at hF
  rw [slices_IndexFunc_int_int_Bound_1.L1] at hF; cases hF
 try dsimp only at hF
 rw [slices_IndexFunc_int_int_Bound_1.L1] at hF
 refine SQ [] [none] fun _ _ g r => ?_
 try simp
 and_intros <;> first | exact g _ (by kernel_rfl) | refine r _ _ _ ?_ | omega | (simp [maxLen] <;> omega)
 refine WK [(0, Lz v0), (1, AV.fn 48 [AV.ptr 0 0]), (7, Iz (v0.length : Int)), (8, Iz v3), (9, AV.bool (decide (v3 < (v0.length : Int))))] [(0, .cells [Lz v1])] 1 (by simp) (by simp) ?_
 refine AW.seq fun K165 hK165 => ?_
 by_cases h1 : v3 < (v0.length : Int)
 ·replace hF := ite_t h1 hF
  have h1_ := h1
  try simp at h1_
  refine CT (by simp [h1, h1_] <;> omega) ?_
  refine AW.skip ?_
  refine hK165 _ _ _ ?_
  refine AW.seq fun K169 hK169 => ?_
  refine AW.block ?_
  refine SQ [] [none, none] fun _ _ g r => ?_
  try simp [h1, h1_]
  and_intros <;> first | exact g _ (by kernel_rfl) | refine r _ _ _ ?_ | omega | (simp [h1, h1_, maxLen] <;> omega)
  refine WK [(0, Lz v0), (1, AV.fn 48 [AV.ptr 0 0]), (5, Iz v3), (7, Iz (v0.length : Int)), (8, Iz v3)] [(0, .cells [Lz v1])] 1 (by simp [h1, h1_]) (by simp [h1, h1_]) ?_
  refine SQ [] [none, none, none, none, none, none] fun _ _ g r => ?_
  obtain ⟨v4, h2, h3, h4, hF⟩ := idx_elim hF
  have h4_ := get_of h4
  try simp at h4_
  have h3_ := h3
  try simp at h3_
  have F1 := And.intro h1 (And.intro h1_ (And.intro h2 (And.intro h3 (And.intro h4 (And.intro h4_ h3_)))))
  try simp [F1]
  and_intros
  try any_goals first | omega | (simp [maxLen, F1] <;> omega)
  obtain ⟨v5, h5, hF⟩ := bnd1_elim hF
  refine aCall_l (w_capacity_Bound_1 k _ _ _ h5) (by simp) [0] [] [] rfl (.cons (.same (by simp [F1])) (.cons (.same (by simp [F1])) .nil)) (by simp [F1]) (by decide) (by simp) (by simp) (.inl rfl) (by simp) (by simp) ?_
  try simp [F1]
  and_intros <;> first | exact g _ (by kernel_rfl) | refine r _ _ _ ?_ | omega | (simp [maxLen, F1] <;> omega)
  refine WK [(0, Lz v0), (1, AV.fn 48 [AV.ptr 0 0]), (5, Iz v3), (7, Iz (v0.length : Int)), (8, Iz v3), (16, AV.bool v5)] [(0, .cells [Lz v1])] 1 (by simp [F1]) (by simp [F1]) ?_
  by_cases h6 : v5 = true
  ·replace hF := ite_t h6 hF
   have h6_ := h6
   try simp at h6_
   have F2 := And.intro F1 (And.intro h6 h6_)
   refine CT (by simp [F2] <;> omega) ?_
   refine SQ [] [none, none] fun _ _ g r => ?_
   try simp [F2]
   and_intros <;> first | exact g _ (by kernel_rfl) | refine r _ _ _ ?_ | omega | (simp [maxLen, F2] <;> omega)
   refine WK [(4, Iz v3)] [(0, .cells [Lz v1])] 1 (by simp [F2]) (by simp [F2]) ?_
   simp only [Option.some.injEq] at hF
   subst hF
   refine AW.ret (hQ _ _ _ ?_ (matchO_0 ?_)).1
   ·simp [Try.f70, F2]
   ·simp [F2]
  ·replace hF := ite_f h6 hF
   have h6_ := h6
   try simp at h6_
   have F3 := And.intro F1 (And.intro h6 h6_)
   refine CF (by simp [F3] <;> omega) ?_
   refine AW.skip ?_
   refine hK169 _ _ _ ?_
   refine RG [] [none, none] fun _ _ g r => ?_
   try simp [F3]
   and_intros <;> first | exact g _ (by kernel_rfl) | refine r _ _ _ ?_ | omega | (simp [maxLen, F3] <;> omega)
   refine hK163 _ _ _ ?_
   exact NX (k' := n1) (IntKind.wrap .i64 (v3 + 1)) hF (by simp [F3]) (by simp [F3])
 ·replace hF := ite_f h1 hF
  have h1_ := h1
  try simp at h1_
  refine CF (by simp [h1, h1_] <;> omega) ?_
  refine AW.exit ?_
  try simp
  refine hK131 _ _ _ ?_
  refine SQ [] [none] fun _ _ g r => ?_
  try simp [h1, h1_]
  and_intros <;> first | exact g _ (by kernel_rfl) | refine r _ _ _ ?_ | omega | (simp [h1, h1_, maxLen] <;> omega)
  refine WK [(4, Iz (-1))] [(0, .cells [Lz v1])] 1 (by simp [h1, h1_]) (by simp [h1, h1_]) ?_
  simp only [Option.some.injEq] at hF
  subst hF
  refine AW.ret (hQ _ _ _ ?_ (matchO_0 ?_)).1
  ·simp [Try.f70, h1, h1_]
  ·simp [h1, h1_]
theorem w_slices_ContainsFunc_int_int_Bound_1 (k : Nat) (v0 : (List Int)) (v1 : (List Int)) (v2 : Bool) (hF : slices_ContainsFunc_int_int_Bound_1 k v0 v1 = some v2) :
  FCall Try.prog 46 [AV.lst false false (List.map (AV.int .i64) v0), AV.fn 48 [AV.ptr 0 0]] [.cells [AV.lst false false (List.map (AV.int .i64) v1)]] (AV.bool v2) [some (.cells [AV.lst false false (List.map (AV.int .i64) v1)])] := by
 unfold slices_ContainsFunc_int_int_Bound_1 at hF
 refine EN Try.func46 ?_
 intro c0 w0 Q h0 hQ
 refine WK [(0, Lz v0), (1, AV.fn 48 [AV.ptr 0 0])] [(0, .cells [Lz v1])] 1 (by simp) (by simp) ?_
 refine SQ [] [none] fun _ _ g r => ?_
 try simp
 and_intros <;> first | exact g _ (by kernel_rfl) | refine r _ _ _ ?_ | omega | (simp [maxLen] <;> omega)
 refine WK [(0, Lz v0), (1, AV.fn 48 [AV.ptr 0 0])] [(0, .cells [Lz v1])] 1 (by simp) (by simp) ?_
 refine SQ [] [none, none, none, none, none] fun _ _ g r => ?_
 try simp
 and_intros
 try any_goals first | omega | (simp [maxLen] <;> omega)
 obtain ⟨v3, h1, hF⟩ := bnd1_elim hF
 refine aCall_l (w_slices_IndexFunc_int_int_Bound_1 k _ _ _ h1) (by simp) [0] [] [] rfl (.cons (.same (by simp)) (.cons (.same (by simp)) .nil)) (by simp) (by decide) (by simp) (by simp) (.inl rfl) (by simp) (by simp) ?_
 try simp
 and_intros <;> first | exact g _ (by kernel_rfl) | refine r _ _ _ ?_ | omega | (simp [maxLen] <;> omega)
 refine WK [(4, AV.bool (decide (0 ≤ v3)))] [(0, .cells [Lz v1])] 1 (by simp) (by simp) ?_
 simp only [Option.some.injEq] at hF
 subst hF
 refine AW.ret (hQ _ _ _ ?_ (matchO_0 ?_)).1
 ·simp [Try.f46]
 ·simp
theorem w_capacity_Bound (k : Nat) (v0 : Int) (v1 : (List api_Edge)) (v2 : (List Int)) (v3 : (List Int)) (v4 : (List Int)) (v5 : Int) (v6 : (List Int)) (v7 : Int) (hF : capacity_Bound k v0 v1 v2 v3 v4 v5 v6 = some v7) :
  FCall Try.prog 25 [AV.agg [AV.int .i64 v0, AV.lst false false (List.map api_Edge.av v1), AV.lst false false (List.map (AV.int .i64) v2)], AV.agg [AV.lst false false (List.map (AV.int .i64) v3), AV.lst false false (List.map (AV.int .i64) v4), AV.int .i64 v5], AV.lst false false (List.map (AV.int .i64) v6)] [] (AV.int .i64 v7) [] := by
 unfold capacity_Bound at hF
 refine EN Try.func25 ?_
 intro c0 w0 Q h0 hQ
 refine WK [(0, AV.agg [Iz v0, AV.lst false false (List.map api_Edge.av v1), Lz v2]), (1, AV.agg [Lz v3, Lz v4, Iz v5]), (2, Lz v6)] [] 0 (by simp) (by simp) ?_
 refine SQ [] [none, none, none, none] fun _ _ g r => ?_
 try simp
 and_intros <;> first | exact g _ (by kernel_rfl) | refine r _ _ _ ?_ | omega | (simp [maxLen] <;> omega)
 refine WK [(3, AV.ptr 0 0), (4, AV.ptr 1 0), (5, AV.ptr 2 0)] [(0, .cells [Iz v0, AV.lst false false (List.map api_Edge.av v1), Lz v2]), (1, .cells [Lz v3, Lz v4, Iz v5]), (2, .cells [Lz v6])] 3 (by simp) (by simp) ?_
 refine SQ [] [none, none, none, none, none, none, none, none, none, none] fun _ _ g r => ?_
 try simp
 and_intros
 try any_goals first | omega | (simp [maxLen] <;> omega)
 obtain ⟨v8, h1, hF⟩ := bnd1_elim hF
 refine AC (w_capacity_All k _ _ _ _ _ _ _ h1) (.cons (.same (by simp)) (.cons (.same (by simp)) .nil)) ?_
 try simp
 and_intros
 try any_goals first | omega | (simp [maxLen] <;> omega)
 obtain ⟨v9, v10, v11, h2, hF⟩ := bnd3_elim hF
 refine AC (w_graph_Level_o k _ _ _ _ _ _ _ h2) (.cons (.same (by simp)) (.cons (.same (by simp)) .nil)) ?_
 try simp
 and_intros <;> first | exact g _ (by kernel_rfl) | refine r _ _ _ ?_ | omega | (simp [maxLen] <;> omega)
 refine WK [(4, AV.ptr 1 0), (5, AV.ptr 2 0), (7, AV.slc 3 0 1 v8.length false), (8, AV.ptr 5 0)] [(1, .cells [Lz v3, Lz v4, Iz v5]), (2, .cells [Lz v6]), (3, .cells (List.map (AV.int .i64) v8)), (4, .grow (List.map (AV.int .i64) v11)), (5, .cells [Iz v9, AV.lst false false (List.map api_Edge.av v10), AV.slc 4 0 1 v11.length false])] 6 (by simp) (by simp) ?_
 refine AW.frz 3 (o := .cells (List.map (AV.int .i64) v8)) (by simp) rfl [(7, Lz v8)] [] ⟨(.l (by simp) (by simp) (by simp) (by simp)), trivial⟩ trivial ?_
 refine AW.frz 4 (o := .grow (List.map (AV.int .i64) v11)) (by simp) rfl [] [(5, .cells [Iz v9, AV.lst false false (List.map api_Edge.av v10), Lz v11])] trivial ⟨⟨by simp, AObj.cells [Iz v9, AV.lst false false (List.map api_Edge.av v10), AV.slc 4 0 1 v11.length false], by simp, (.mk (.cons (.same _) (.cons (.same _) (.cons (.l (by simp) (by simp) (by simp) (by simp)) .nil))))⟩, trivial⟩ ?_
 refine WK [(4, AV.ptr 1 0), (5, AV.ptr 2 0), (7, Lz v8), (8, AV.ptr 5 0)] [(1, .cells [Lz v3, Lz v4, Iz v5]), (2, .cells [Lz v6]), (5, .cells [Iz v9, AV.lst false false (List.map api_Edge.av v10), Lz v11])] 6 (by simp) (by simp) ?_
 refine SQ [] [none] fun _ _ g r => ?_
 try simp
 and_intros <;> first | exact g _ (by kernel_rfl) | refine r _ _ _ ?_ | omega | (simp [maxLen] <;> omega)
 refine WK [(4, AV.ptr 1 0), (5, AV.ptr 2 0), (7, Lz v8), (8, AV.ptr 5 0), (9, Iz 0)] [(1, .cells [Lz v3, Lz v4, Iz v5]), (2, .cells [Lz v6]), (5, .cells [Iz v9, AV.lst false false (List.map api_Edge.av v10), Lz v11])] 6 (by simp) (by simp) ?_
 refine AW.seq fun K207 hK207 => ?_
 refine SQ [] [none, none, none] fun _ _ g r => ?_
 try simp
 and_intros <;> first | exact g _ (by kernel_rfl) | refine r _ _ _ ?_ | omega | (simp [maxLen] <;> omega)
 refine WK [(4, AV.ptr 1 0), (5, AV.ptr 2 0), (8, AV.ptr 5 0), (9, Iz 0), (19, Lz v8), (20, Iz (v8.length : Int)), (21, Iz 0)] [(1, .cells [Lz v3, Lz v4, Iz v5]), (2, .cells [Lz v6]), (5, .cells [Iz v9, AV.lst false false (List.map api_Edge.av v10), Lz v11])] 6 (by simp) (by simp) ?_
 refine AW.block ?_
 refine RM h0 [(0, 1), (1, 2), (2, 5)] [(4, AV.ptr 0 0), (5, AV.ptr 1 0), (8, AV.ptr 2 0), (9, Iz 0), (19, Lz v8), (20, Iz (v8.length : Int)), (21, Iz 0)] [(0, .cells [Lz v3, Lz v4, Iz v5]), (1, .cells [Lz v6]), (2, .cells [Iz v9, AV.lst false false (List.map api_Edge.av v10), Lz v11])] 3 (by simp) (by simp) ?_
 refine AW.loopF (α := (Int × Int)) (fun n (v12, v13) => capacity_Bound.L1 k v3 v6 v8 v9 v10 v11 n v12 v13 = some v7) (fun (v12, v13) => [(4, AV.ptr 0 0), (5, AV.ptr 1 0), (8, AV.ptr 2 0), (9, Iz v12), (19, Lz v8), (20, Iz (v8.length : Int)), (21, Iz v13)]) (fun (v12, v13) => [(0, .cells [Lz v3, Lz v4, Iz v5]), (1, .cells [Lz v6]), (2, .cells [Iz v9, AV.lst false false (List.map api_Edge.av v10), Lz v11])]) 3 k ((0, 0)) hF (by simp) (by simp) (by simp) ?_
 rintro (_|n1) ⟨v12, v13⟩ hF K257 hK257
 ·try dsimp only at hF
  rw [capacity_Bound.L1] at hF; cases hF
 try dsimp only at hF
 rw [capacity_Bound.L1] at hF
 refine SQ [] [none] fun _ _ g r => ?_
 try simp
 and_intros <;> first | exact g _ (by kernel_rfl) | refine r _ _ _ ?_ | omega | (simp [maxLen] <;> omega)
 refine WK [(4, AV.ptr 0 0), (5, AV.ptr 1 0), (8, AV.ptr 2 0), (9, Iz v12), (19, Lz v8), (20, Iz (v8.length : Int)), (21, Iz v13), (22, AV.bool (decide (v13 < (v8.length : Int))))] [(0, .cells [Lz v3, Lz v4, Iz v5]), (1, .cells [Lz v6]), (2, .cells [Iz v9, AV.lst false false (List.map api_Edge.av v10), Lz v11])] 3 (by simp) (by simp) ?_
 refine AW.seq fun K259 hK259 => ?_
 by_cases h3 : v13 < (v8.length : Int)
 ·replace hF := ite_t h3 hF
  have h3_ := h3
  try simp at h3_
  refine CT (by simp [h3, h3_] <;> omega) ?_
  refine AW.skip ?_
  refine hK259 _ _ _ ?_
  refine AW.midF (α := Int) (fun v14 => capacity_Bound.J2 k v13 (fun v12_ v13_ => capacity_Bound.L1 k v3 v6 v8 v9 v10 v11 n1 v12_ v13_) v14 = some v7) (fun v14 => [(4, AV.ptr 0 0), (5, AV.ptr 1 0), (8, AV.ptr 2 0), (9, Iz v14), (19, Lz v8), (20, Iz (v8.length : Int)), (21, Iz v13)]) (fun v14 => [(0, .cells [Lz v3, Lz v4, Iz v5]), (1, .cells [Lz v6]), (2, .cells [Iz v9, AV.lst false false (List.map api_Edge.av v10), Lz v11])]) 3 (fun K267 hK267 => ?_) ?_
  ·refine AW.block ?_
   refine SQ [] [none, none, none, none, none] fun _ _ g r => ?_
   obtain ⟨v15, h4, h5, h6, hF⟩ := idx_elim hF
   have h6_ := get_of h6
   try simp at h6_
   have h5_ := h5
   try simp at h5_
   have F1 := And.intro h3 (And.intro h3_ (And.intro h4 (And.intro h5 (And.intro h6 (And.intro h6_ h5_)))))
   try simp [F1]
   and_intros <;> first | exact g _ (by kernel_rfl) | refine r _ _ _ ?_ | omega | (simp [maxLen, F1] <;> omega)
   refine WK [(4, AV.ptr 0 0), (5, AV.ptr 1 0), (8, AV.ptr 2 0), (9, Iz v12), (10, Iz v13), (11, Iz v15), (19, Lz v8), (20, Iz (v8.length : Int)), (21, Iz v13)] [(0, .cells [Lz v3, Lz v4, Iz v5]), (1, .cells [Lz v6]), (2, .cells [Iz v9, AV.lst false false (List.map api_Edge.av v10), Lz v11])] 3 (by simp [F1]) (by simp [F1]) ?_
   refine AW.block ?_
   refine SQ [] [none, none, none, none] fun _ _ g r => ?_
   try simp [F1]
   and_intros
   try any_goals first | omega | (simp [maxLen, F1] <;> omega)
   obtain ⟨v16, h7, hF⟩ := bnd1_elim hF
   refine AC (w_slices_Contains_int_int k _ _ _ h7) (.cons (.same (by simp [F1])) (.cons (.same (by simp [F1])) .nil)) ?_
   try simp [F1]
   and_intros <;> first | exact g _ (by kernel_rfl) | refine r _ _ _ ?_ | omega | (simp [maxLen, F1] <;> omega)
   refine WK [(4, AV.ptr 0 0), (5, AV.ptr 1 0), (8, AV.ptr 2 0), (9, Iz v12), (10, Iz v13), (11, Iz v15), (19, Lz v8), (20, Iz (v8.length : Int)), (21, Iz v13), (26, AV.bool v16)] [(0, .cells [Lz v3, Lz v4, Iz v5]), (1, .cells [Lz v6]), (2, .cells [Iz v9, AV.lst false false (List.map api_Edge.av v10), Lz v11])] 3 (by simp [F1]) (by simp [F1]) ?_
   by_cases h8 : v16 = true
   ·replace hF := ite_t h8 hF
    have h8_ := h8
    try simp at h8_
    have F2 := And.intro F1 (And.intro h8 h8_)
    refine CT (by simp [F2] <;> omega) ?_
    refine SQ [] [none, none, none, none] fun _ _ g r => ?_
    try simp [F2]
    and_intros
    try any_goals first | omega | (simp [maxLen, F2] <;> omega)
    obtain ⟨v17, h9, hF⟩ := bnd1_elim hF
    refine AC (w_slices_Contains_int_int k _ _ _ h9) (.cons (.same (by simp [F2])) (.cons (.same (by simp [F2])) .nil)) ?_
    try simp [F2]
    and_intros <;> first | exact g _ (by kernel_rfl) | refine r _ _ _ ?_ | omega | (simp [maxLen, F2] <;> omega)
    refine WK [(4, AV.ptr 0 0), (5, AV.ptr 1 0), (8, AV.ptr 2 0), (9, Iz v12), (11, Iz v15), (19, Lz v8), (20, Iz (v8.length : Int)), (21, Iz v13), (33, AV.bool v17)] [(0, .cells [Lz v3, Lz v4, Iz v5]), (1, .cells [Lz v6]), (2, .cells [Iz v9, AV.lst false false (List.map api_Edge.av v10), Lz v11])] 3 (by simp [F2]) (by simp [F2]) ?_
    by_cases h10 : v17 = true
    ·replace hF := ite_t h10 hF
     have h10_ := h10
     try simp at h10_
     have F3 := And.intro F2 (And.intro h10 h10_)
     refine CT (by simp [F3] <;> omega) ?_
     refine RG [] [none, none, none, none] fun _ _ g r => ?_
     try simp [F3]
     and_intros <;> first | exact g _ (by kernel_rfl) | refine r _ _ _ ?_ | omega | (simp [maxLen, F3] <;> omega)
     refine hK267 _ _ _ ?_
     exact JN (IntKind.wrap .i64 (v12 + v15)) hF (by simp [F3]) (by simp [F3])
    ·replace hF := ite_f h10 hF
     have h10_ := h10
     try simp at h10_
     have F4 := And.intro F2 (And.intro h10 h10_)
     refine CF (by simp [F4] <;> omega) ?_
     refine AW.skip ?_
     refine hK267 _ _ _ ?_
     exact JN (v12) hF (by simp [F4]) (by simp [F4])
   ·replace hF := ite_f h8 hF
    have h8_ := h8
    try simp at h8_
    have F5 := And.intro F1 (And.intro h8 h8_)
    refine CF (by simp [F5] <;> omega) ?_
    refine SQ [] [none, none, none, none, none, none] fun _ _ g r => ?_
    try simp [F5]
    and_intros
    try any_goals first | omega | (simp [maxLen, F5] <;> omega)
    obtain ⟨v18, h11, hF⟩ := bnd1_elim hF
    refine AC (w_graph_Out k _ _ _ _ _ h11) (.cons (.same (by simp [F5])) (.cons (.same (by simp [F5])) .nil)) ?_
    try simp [F5]
    and_intros
    try any_goals first | omega | (simp [maxLen, F5] <;> omega)
    obtain ⟨v19, h12, hF⟩ := bnd1_elim hF
    refine aCall_l (w_slices_ContainsFunc_int_int_Bound_1 k _ _ _ h12) (by simp) [1] [] [] rfl (.cons (.same (by simp [F5])) (.cons (.same (by simp [F5])) .nil)) (by simp [F5]) (by decide) (by simp) (by simp) (.inl rfl) (by simp) (by simp) ?_
    try simp [F5]
    and_intros <;> first | exact g _ (by kernel_rfl) | refine r _ _ _ ?_ | omega | (simp [maxLen, F5] <;> omega)
    refine WK [(4, AV.ptr 0 0), (5, AV.ptr 1 0), (8, AV.ptr 2 0), (9, Iz v12), (11, Iz v15), (19, Lz v8), (20, Iz (v8.length : Int)), (21, Iz v13), (37, AV.bool v19)] [(0, .cells [Lz v3, Lz v4, Iz v5]), (1, .cells [Lz v6]), (2, .cells [Iz v9, AV.lst false false (List.map api_Edge.av v10), Lz v11])] 3 (by simp [F5]) (by simp [F5]) ?_
    by_cases h13 : v19 = true
    ·replace hF := ite_t h13 hF
     have h13_ := h13
     try simp at h13_
     have F6 := And.intro F5 (And.intro h13 h13_)
     refine CT (by simp [F6] <;> omega) ?_
     refine RG [] [none, none, none, none, none, none] fun _ _ g r => ?_
     obtain ⟨v20, h14, hF⟩ := let1_elim hF
     have h14_ := h14
     try simp at h14_
     have F7 := And.intro F6 (And.intro h14 h14_)
     try simp [F7]
     and_intros <;> first | exact g _ (by kernel_rfl) | refine r _ _ _ ?_ | omega | (simp [maxLen, F7] <;> omega)
     refine hK267 _ _ _ ?_
     exact JN (IntKind.wrap .i64 (v12 + v20)) hF (by simp [F7]) (by simp [F7])
    ·replace hF := ite_f h13 hF
     have h13_ := h13
     try simp at h13_
     have F8 := And.intro F5 (And.intro h13 h13_)
     refine CF (by simp [F8] <;> omega) ?_
     refine AW.skip ?_
     refine hK267 _ _ _ ?_
     exact JN (v12) hF (by simp [F8]) (by simp [F8])
  ·rintro v14 hF
   try dsimp only at hF
   unfold capacity_Bound.J2 at hF
   refine RG [] [none, none] fun _ _ g r => ?_
   try simp [h3, h3_]
   and_intros <;> first | exact g _ (by kernel_rfl) | refine r _ _ _ ?_ | omega | (simp [h3, h3_, maxLen] <;> omega)
   refine hK257 _ _ _ ?_
   exact NX (k' := n1) ((v14, IntKind.wrap .i64 (v13 + 1))) hF (by simp [h3, h3_]) (by simp [h3, h3_])
 ·replace hF := ite_f h3 hF
  have h3_ := h3
  try simp at h3_
  refine CF (by simp [h3, h3_] <;> omega) ?_
  refine AW.exit ?_
  try simp
  refine hK207 _ _ _ ?_
  refine SQ [] [none, none] fun _ _ g r => ?_
  try simp [h3, h3_]
  and_intros <;> first | exact g _ (by kernel_rfl) | refine r _ _ _ ?_ | omega | (simp [h3, h3_, maxLen] <;> omega)
  refine WK [(6, Iz v12)] [] 3 (by simp [h3, h3_]) (by simp [h3, h3_]) ?_
  simp only [Option.some.injEq] at hF
  subst hF
  refine AW.ret (hQ _ _ _ ?_ (matchO_0 ?_)).1
  ·simp [Try.f25, h3, h3_]
  ·simp [h3, h3_]
abbrev c_law13_awake  : AObj := .cells [Iz 4, AV.lst false true (List.map api_Edge.av ([(api_Edge.mk 0 1 1), (api_Edge.mk 1 2 1)] : List api_Edge)), AV.lst true true (List.map (AV.int .i64) ([] : List Int))]
abbrev c_law13_awake1  : AObj := .cells [AV.lst false true (List.map (AV.int .i64) ([0] : List Int)), AV.lst false true (List.map (AV.int .i64) ([5, 3] : List Int)), Iz 1]
abbrev c_law13_awake2  : AObj := .cells [Iz 4, AV.slc 0 0 3 (([(api_Edge.mk 0 1 1), (api_Edge.mk 1 2 1)] : List api_Edge).length) true, AV.lst true true (List.map (AV.int .i64) ([] : List Int))]
theorem w_law13_awake (k : Nat) (v0 : Bool) (hF : law13_awake k = some v0) :
  FCall Try.prog 10 [] [] (AV.bool v0) [] := by
 unfold law13_awake at hF
 refine EN Try.func10 ?_
 intro c0 w0 Q h0 hQ
 refine WK [] [] 0 (by simp) (by simp) ?_
 refine SQ [] [none] fun _ _ g r => ?_
 try simp
 and_intros <;> first | exact g _ (by kernel_rfl) | refine r _ _ _ ?_ | omega | (simp [maxLen] <;> omega)
 refine WK [] [] 0 (by simp) (by simp) ?_
 refine SQ [6] [none, none, none, none, none, none] fun _ _ g r => ?_
 try simp
 and_intros <;> first | exact g _ (by kernel_rfl) | refine r _ _ _ ?_ | omega | (simp [maxLen] <;> omega)
 refine WK [(1, AV.ptr 1 0)] [(0, .cells (flatA (List.map api_Edge.av ([(api_Edge.mk 0 1 1), (api_Edge.mk 1 2 1)] : List api_Edge)))), (1, c_law13_awake2 )] 2 (by simp) (by simp) ?_
 refine AW.frz 0 (o := .cells (flatA (List.map api_Edge.av ([(api_Edge.mk 0 1 1), (api_Edge.mk 1 2 1)] : List api_Edge)))) (by simp) rfl [] [(1, c_law13_awake )] trivial ⟨⟨by simp, (c_law13_awake2 ), by simp, (.mk (.cons (.same _) (.cons (.l (by simp) (by simp) (by simp) (by simp)) (.cons (.same _) .nil))))⟩, trivial⟩ ?_
 refine WK [(1, AV.ptr 1 0)] [(1, c_law13_awake )] 2 (by simp) (by simp) ?_
 refine SQ [] [none, none, none, none, none] fun _ _ g r => ?_
 try simp
 and_intros <;> first | exact g _ (by kernel_rfl) | refine r _ _ _ ?_ | omega | (simp [maxLen] <;> omega)
 refine WK [(1, AV.ptr 1 0), (2, AV.ptr 2 0)] [(1, c_law13_awake ), (2, c_law13_awake1 )] 3 (by simp) (by simp) ?_
 refine SQ [] [none, none, none, none] fun _ _ g r => ?_
 try simp
 and_intros
 try any_goals first | omega | (simp [maxLen] <;> omega)
 obtain ⟨v1, h1, hF⟩ := bnd1_elim hF
 refine AC (w_capacity_All k _ _ _ _ _ _ _ h1) (.cons (.agg (.cons (.same (by simp)) (.cons (Coe.fl (by simp)) (.cons (Coe.fl (by simp)) .nil)))) (.cons (.agg (.cons (Coe.fl (by simp)) (.cons (Coe.fl (by simp)) (.cons (.same (by simp)) .nil)))) .nil)) ?_
 try simp
 and_intros <;> first | exact g _ (by kernel_rfl) | refine r _ _ _ ?_ | omega | (simp [maxLen] <;> omega)
 refine WK [(1, AV.ptr 1 0), (2, AV.ptr 2 0), (3, AV.slc 3 0 1 v1.length false)] [(1, c_law13_awake ), (2, c_law13_awake1 ), (3, .cells (List.map (AV.int .i64) v1))] 4 (by simp) (by simp) ?_
 refine AW.frz 3 (o := .cells (List.map (AV.int .i64) v1)) (by simp) rfl [(3, Lz v1)] [] ⟨(.l (by simp) (by simp) (by simp) (by simp)), trivial⟩ trivial ?_
 refine WK [(1, AV.ptr 1 0), (2, AV.ptr 2 0), (3, Lz v1)] [(1, c_law13_awake ), (2, c_law13_awake1 )] 4 (by simp) (by simp) ?_
 refine SQ [] [none, none, none, none, none, some (18, true), some (18, true), some (18, true), none, none, some (23, true), some (23, true), some (23, true), some (23, true), none, none, some (29, true), some (29, true), some (29, true), some (29, true), none, none, some (35, true), some (35, true), some (35, true), some (35, true), none, none, some (41, true), some (41, true), some (41, true), some (41, true), none, none, some (47, true), some (47, true), some (47, true), some (47, true), some (47, true), none, none, some (54, true), some (54, true), some (54, true), none, none] fun _ _ g r => ?_
 try simp
 and_intros
 try any_goals first | omega | (simp [maxLen] <;> omega)
 obtain ⟨v2, h2, hF⟩ := bnd1_elim hF
 refine AC (w_capacity_Check k _ _ _ _ _ _ _ h2) (.cons (.agg (.cons (.same (by simp)) (.cons (Coe.fl (by simp)) (.cons (Coe.fl (by simp)) .nil)))) (.cons (.agg (.cons (Coe.fl (by simp)) (.cons (Coe.fl (by simp)) (.cons (.same (by simp)) .nil)))) .nil)) ?_
 by_cases h3 : v2 = 0
 ·replace hF := ite_t h3 hF
  have h3q : v2 = 0 := h3
  have h3_ := eqb_t h3q
  have h3__ := neb_f h3q
  by_cases h4 : (v1.length : Int) = 4
  ·replace hF := ite_t h4 hF
   have h4q : (v1.length : Int) = 4 := h4
   have h4_ := eqb_t h4q
   have h4__ := neb_f h4q
   obtain ⟨v3, h5, h6, h7, hF⟩ := idx_elim hF
   have h7_ := get_of h7
   try simp at h7_
   have h6_ := h6
   try simp at h6_
   have h7z := head_of h7
   by_cases h8 : v3 = 5
   ·replace hF := ite_t h8 hF
    have h8q : v3 = 5 := h8
    have h8_ := eqb_t h8q
    have h8__ := neb_f h8q
    obtain ⟨v4, h9, h10, h11, hF⟩ := idx_elim hF
    have h11_ := get_of h11
    try simp at h11_
    have h10_ := h10
    try simp at h10_
    by_cases h12 : v4 = 3
    ·replace hF := ite_t h12 hF
     have h12q : v4 = 3 := h12
     have h12_ := eqb_t h12q
     have h12__ := neb_f h12q
     obtain ⟨v5, h13, h14, h15, hF⟩ := idx_elim hF
     have h15_ := get_of h15
     try simp at h15_
     have h14_ := h14
     try simp at h14_
     by_cases h16 : v5 = 1
     ·replace hF := ite_t h16 hF
      have h16q : v5 = 1 := h16
      have h16_ := eqb_t h16q
      have h16__ := neb_f h16q
      obtain ⟨v6, h17, h18, h19, hF⟩ := idx_elim hF
      have h19_ := get_of h19
      try simp at h19_
      have h18_ := h18
      try simp at h18_
      by_cases h20 : v6 = 0
      ·replace hF := ite_t h20 hF
       have h20q : v6 = 0 := h20
       have h20_ := eqb_t h20q
       have h20__ := neb_f h20q
       have F1 := And.intro h3_ (And.intro h3__ (And.intro h3q (And.intro h4_ (And.intro h4__ (And.intro h4q (And.intro h5 (And.intro h6 (And.intro h7 (And.intro h7_ (And.intro h6_ (And.intro h7z (And.intro h8_ (And.intro h8__ (And.intro h8q (And.intro h9 (And.intro h10 (And.intro h11 (And.intro h11_ (And.intro h10_ (And.intro h12_ (And.intro h12__ (And.intro h12q (And.intro h13 (And.intro h14 (And.intro h15 (And.intro h15_ (And.intro h14_ (And.intro h16_ (And.intro h16__ (And.intro h16q (And.intro h17 (And.intro h18 (And.intro h19 (And.intro h19_ (And.intro h18_ (And.intro h20_ (And.intro h20__ h20q)))))))))))))))))))))))))))))))))))))
       try simp [F1]
       and_intros
       try any_goals first | omega | (simp [maxLen, F1] <;> omega)
       obtain ⟨v7, h21, hF⟩ := bnd1_elim hF
       refine AC (w_capacity_Bound k _ _ _ _ _ _ _ _ h21) (.cons (.agg (.cons (.same (by simp [F1])) (.cons (Coe.fl (by simp [F1])) (.cons (Coe.fl (by simp [F1])) .nil)))) (.cons (.agg (.cons (Coe.fl (by simp [F1])) (.cons (Coe.fl (by simp [F1])) (.cons (.same (by simp [F1])) .nil)))) (.cons (Coe.fl (by simp [F1])) .nil))) ?_
       by_cases h22 : v7 = 2
       ·replace hF := ite_t h22 hF
        have h22q : v7 = 2 := h22
        have h22_ := eqb_t h22q
        have h22__ := neb_f h22q
        have F2 := And.intro F1 (And.intro h22_ (And.intro h22__ h22q))
        try simp [F2]
        and_intros
        try any_goals first | omega | (simp [maxLen, F2] <;> omega)
        obtain ⟨v8, h23, hF⟩ := bnd1_elim hF
        refine AC (w_capacity_Of k _ _ _ _ _ h23) (.cons (.agg (.cons (Coe.fl (by simp [F2])) (.cons (Coe.fl (by simp [F2])) (.cons (.same (by simp [F2])) .nil)))) (.cons (.same (by simp [F2])) .nil)) ?_
        try simp [F2]
        and_intros <;> first | exact g _ (by kernel_rfl) | refine r _ _ _ ?_ | omega | (simp [maxLen, F2] <;> omega)
        refine WK [(0, AV.bool (v8 == 0))] [] 4 (by simp [F2]) (by simp [F2]) ?_
        simp only [Option.some.injEq] at hF
        subst hF
        refine AW.ret (hQ _ _ _ ?_ (matchO_0 ?_)).1
        ·simp [Try.f10, F2]
        ·simp [F2]
       ·replace hF := ite_f h22 hF
        have h22_ := eqb_f h22
        have h22__ := neb_t h22
        have F3 := And.intro F1 (And.intro h22 (And.intro h22_ h22__))
        try simp [F3]
        and_intros <;> first | exact g _ (by kernel_rfl) | refine r _ _ _ ?_ | omega | (simp [maxLen, F3] <;> omega)
        refine WK [(0, AV.bool false)] [] 4 (by simp [F3]) (by simp [F3]) ?_
        simp only [Option.some.injEq] at hF
        subst hF
        refine AW.ret (hQ _ _ _ ?_ (matchO_0 ?_)).1
        ·simp [Try.f10, F3]
        ·simp [F3]
      ·replace hF := ite_f h20 hF
       have h20_ := eqb_f h20
       have h20__ := neb_t h20
       have F4 := And.intro h3_ (And.intro h3__ (And.intro h3q (And.intro h4_ (And.intro h4__ (And.intro h4q (And.intro h5 (And.intro h6 (And.intro h7 (And.intro h7_ (And.intro h6_ (And.intro h7z (And.intro h8_ (And.intro h8__ (And.intro h8q (And.intro h9 (And.intro h10 (And.intro h11 (And.intro h11_ (And.intro h10_ (And.intro h12_ (And.intro h12__ (And.intro h12q (And.intro h13 (And.intro h14 (And.intro h15 (And.intro h15_ (And.intro h14_ (And.intro h16_ (And.intro h16__ (And.intro h16q (And.intro h17 (And.intro h18 (And.intro h19 (And.intro h19_ (And.intro h18_ (And.intro h20 (And.intro h20_ h20__)))))))))))))))))))))))))))))))))))))
       try simp [F4]
       and_intros <;> first | exact g _ (by kernel_rfl) | refine r _ _ _ ?_ | omega | (simp [maxLen, F4] <;> omega)
       refine WK [(0, AV.bool false)] [] 4 (by simp [F4]) (by simp [F4]) ?_
       simp only [Option.some.injEq] at hF
       subst hF
       refine AW.ret (hQ _ _ _ ?_ (matchO_0 ?_)).1
       ·simp [Try.f10, F4]
       ·simp [F4]
     ·replace hF := ite_f h16 hF
      have h16_ := eqb_f h16
      have h16__ := neb_t h16
      have F5 := And.intro h3_ (And.intro h3__ (And.intro h3q (And.intro h4_ (And.intro h4__ (And.intro h4q (And.intro h5 (And.intro h6 (And.intro h7 (And.intro h7_ (And.intro h6_ (And.intro h7z (And.intro h8_ (And.intro h8__ (And.intro h8q (And.intro h9 (And.intro h10 (And.intro h11 (And.intro h11_ (And.intro h10_ (And.intro h12_ (And.intro h12__ (And.intro h12q (And.intro h13 (And.intro h14 (And.intro h15 (And.intro h15_ (And.intro h14_ (And.intro h16 (And.intro h16_ h16__)))))))))))))))))))))))))))))
      try simp [F5]
      and_intros <;> first | exact g _ (by kernel_rfl) | refine r _ _ _ ?_ | omega | (simp [maxLen, F5] <;> omega)
      refine WK [(0, AV.bool false)] [] 4 (by simp [F5]) (by simp [F5]) ?_
      simp only [Option.some.injEq] at hF
      subst hF
      refine AW.ret (hQ _ _ _ ?_ (matchO_0 ?_)).1
      ·simp [Try.f10, F5]
      ·simp [F5]
    ·replace hF := ite_f h12 hF
     have h12_ := eqb_f h12
     have h12__ := neb_t h12
     have F6 := And.intro h3_ (And.intro h3__ (And.intro h3q (And.intro h4_ (And.intro h4__ (And.intro h4q (And.intro h5 (And.intro h6 (And.intro h7 (And.intro h7_ (And.intro h6_ (And.intro h7z (And.intro h8_ (And.intro h8__ (And.intro h8q (And.intro h9 (And.intro h10 (And.intro h11 (And.intro h11_ (And.intro h10_ (And.intro h12 (And.intro h12_ h12__)))))))))))))))))))))
     try simp [F6]
     and_intros <;> first | exact g _ (by kernel_rfl) | refine r _ _ _ ?_ | omega | (simp [maxLen, F6] <;> omega)
     refine WK [(0, AV.bool false)] [] 4 (by simp [F6]) (by simp [F6]) ?_
     simp only [Option.some.injEq] at hF
     subst hF
     refine AW.ret (hQ _ _ _ ?_ (matchO_0 ?_)).1
     ·simp [Try.f10, F6]
     ·simp [F6]
   ·replace hF := ite_f h8 hF
    have h8_ := eqb_f h8
    have h8__ := neb_t h8
    have F7 := And.intro h3_ (And.intro h3__ (And.intro h3q (And.intro h4_ (And.intro h4__ (And.intro h4q (And.intro h5 (And.intro h6 (And.intro h7 (And.intro h7_ (And.intro h6_ (And.intro h7z (And.intro h8 (And.intro h8_ h8__)))))))))))))
    try simp [F7]
    and_intros <;> first | exact g _ (by kernel_rfl) | refine r _ _ _ ?_ | omega | (simp [maxLen, F7] <;> omega)
    refine WK [(0, AV.bool false)] [] 4 (by simp [F7]) (by simp [F7]) ?_
    simp only [Option.some.injEq] at hF
    subst hF
    refine AW.ret (hQ _ _ _ ?_ (matchO_0 ?_)).1
    ·simp [Try.f10, F7]
    ·simp [F7]
  ·replace hF := ite_f h4 hF
   have h4_ := eqb_f h4
   have h4__ := neb_t h4
   have F8 := And.intro h3_ (And.intro h3__ (And.intro h3q (And.intro h4 (And.intro h4_ h4__))))
   try simp [F8]
   and_intros <;> first | exact g _ (by kernel_rfl) | refine r _ _ _ ?_ | omega | (simp [maxLen, F8] <;> omega)
   refine WK [(0, AV.bool false)] [] 4 (by simp [F8]) (by simp [F8]) ?_
   simp only [Option.some.injEq] at hF
   subst hF
   refine AW.ret (hQ _ _ _ ?_ (matchO_0 ?_)).1
   ·simp [Try.f10, F8]
   ·simp [F8]
 ·replace hF := ite_f h3 hF
  have h3_ := eqb_f h3
  have h3__ := neb_t h3
  have F9 := And.intro h3 (And.intro h3_ h3__)
  try simp [F9]
  and_intros <;> first | exact g _ (by kernel_rfl) | refine r _ _ _ ?_ | omega | (simp [maxLen, F9] <;> omega)
  refine WK [(0, AV.bool false)] [] 4 (by simp [F9]) (by simp [F9]) ?_
  simp only [Option.some.injEq] at hF
  subst hF
  refine AW.ret (hQ _ _ _ ?_ (matchO_0 ?_)).1
  ·simp [Try.f10, F9]
  ·simp [F9]
theorem w_made_Roll (k : Nat) (v0 : (List Int)) (v1 : (List Int)) (v2 : Int) (hF : made_Roll k v0 = some (v1, v2)) :
  FCall Try.prog 11 [AV.lst false false (List.map (AV.int .i64) v0)] [] (AV.ptr 0 0) [some (.cells [AV.lst false false (List.map (AV.int .i64) v1), AV.int .i64 v2])] := by
 unfold made_Roll at hF
 refine EN Try.func11 ?_
 intro c0 w0 Q h0 hQ
 refine WK [(0, Lz v0)] [] 0 (by simp) (by simp) ?_
 refine SQ [] [none] fun _ _ g r => ?_
 try simp
 and_intros <;> first | exact g _ (by kernel_rfl) | refine r _ _ _ ?_ | omega | (simp [maxLen] <;> omega)
 refine WK [(0, Lz v0)] [] 0 (by simp) (by simp) ?_
 refine SQ [] [none, none, none, none] fun _ _ g r => ?_
 try simp
 and_intros <;> first | exact g _ (by kernel_rfl) | refine r _ _ _ ?_ | omega | (simp [maxLen] <;> omega)
 refine WK [(2, AV.ptr 0 0)] [(0, .cells [Lz v0, Iz 0])] 1 (by simp) (by simp) ?_
 simp only [Option.some.injEq, Prod.mk.injEq] at hF
 obtain ⟨e0, e1⟩ := hF
 subst e0 e1
 refine AW.ret (hQ _ _ _ ?_ (matchO_0 ?_)).1
 ·simp [Try.f11]
 ·simp
theorem w_made_Mod (k : Nat) (v0 : Int) (v1 : Int) (v2 : Int) (hF : made_Mod k v0 v1 = some v2) :
  FCall Try.prog 27 [AV.int .i64 v0, AV.int .i64 v1] [] (AV.int .i64 v2) [] := by
 unfold made_Mod at hF
 refine EN Try.func27 ?_
 intro c0 w0 Q h0 hQ
 refine WK [(0, Iz v0), (1, Iz v1)] [] 0 (by simp) (by simp) ?_
 refine SQ [] [none] fun _ _ g r => ?_
 try simp
 and_intros <;> first | exact g _ (by kernel_rfl) | refine r _ _ _ ?_ | omega | (simp [maxLen] <;> omega)
 refine WK [(0, Iz v0), (1, Iz v1)] [] 0 (by simp) (by simp) ?_
 refine AW.seq fun K17 hK17 => ?_
 refine SQ [] [none, none] fun _ _ g r => ?_
 try simp
 and_intros <;> first | exact g _ (by kernel_rfl) | refine r _ _ _ ?_ | omega | (simp [maxLen] <;> omega)
 refine WK [(0, Iz v0), (1, Iz v1), (6, AV.bool (decide (v1 < 1)))] [] 0 (by simp) (by simp) ?_
 by_cases h1 : v1 < 1
 ·replace hF := ite_t h1 hF
  have h1_ := h1
  try simp at h1_
  refine CT (by simp [h1, h1_] <;> omega) ?_
  refine SQ [] [none] fun _ _ g r => ?_
  try simp [h1, h1_]
  and_intros <;> first | exact g _ (by kernel_rfl) | refine r _ _ _ ?_ | omega | (simp [h1, h1_, maxLen] <;> omega)
  refine WK [(4, Iz 0)] [] 0 (by simp [h1, h1_]) (by simp [h1, h1_]) ?_
  simp only [Option.some.injEq] at hF
  subst hF
  refine AW.ret (hQ _ _ _ ?_ (matchO_0 ?_)).1
  ·simp [Try.f27, h1, h1_]
  ·simp [h1, h1_]
 ·replace hF := ite_f h1 hF
  have h1_ := h1
  try simp at h1_
  refine CF (by simp [h1, h1_] <;> omega) ?_
  refine AW.skip ?_
  refine hK17 _ _ _ ?_
  refine SQ [] [none, none, none, none] fun _ _ g r => ?_
  obtain ⟨h2, hF⟩ := chk_elim hF
  have h2_ := h2
  try simp at h2_
  have F1 := And.intro h1 (And.intro h1_ (And.intro h2 h2_))
  try simp [F1]
  and_intros <;> first | exact g _ (by kernel_rfl) | refine r _ _ _ ?_ | omega | (simp [maxLen, F1] <;> omega)
  refine WK [(0, Iz (Int.tmod v0 v1)), (1, Iz v1)] [] 0 (by simp [F1]) (by simp [F1]) ?_
  refine AW.midF (α := Int) (fun v3 => made_Mod.J1 k v3 = some v2) (fun v3 => [(0, Iz v3)]) (fun v3 => []) 0 (fun K24 hK24 => ?_) ?_
  ·refine SQ [] [none, none] fun _ _ g r => ?_
   try simp [F1]
   and_intros <;> first | exact g _ (by kernel_rfl) | refine r _ _ _ ?_ | omega | (simp [maxLen, F1] <;> omega)
   refine WK [(0, Iz (Int.tmod v0 v1)), (1, Iz v1), (11, AV.bool (decide (Int.tmod v0 v1 < 0)))] [] 0 (by simp [F1]) (by simp [F1]) ?_
   by_cases h3 : Int.tmod v0 v1 < 0
   ·replace hF := ite_t h3 hF
    have h3_ := h3
    try simp at h3_
    have F2 := And.intro F1 (And.intro h3 h3_)
    refine CT (by simp [F2] <;> omega) ?_
    refine RG [] [none, none, none, none] fun _ _ g r => ?_
    try simp [F2]
    and_intros <;> first | exact g _ (by kernel_rfl) | refine r _ _ _ ?_ | omega | (simp [maxLen, F2] <;> omega)
    refine hK24 _ _ _ ?_
    exact JN (IntKind.wrap .i64 (Int.tmod v0 v1 + v1)) hF (by simp [F2]) (by simp [F2])
   ·replace hF := ite_f h3 hF
    have h3_ := h3
    try simp at h3_
    have F3 := And.intro F1 (And.intro h3 h3_)
    refine CF (by simp [F3] <;> omega) ?_
    refine AW.skip ?_
    refine hK24 _ _ _ ?_
    exact JN (Int.tmod v0 v1) hF (by simp [F3]) (by simp [F3])
  ·rintro v3 hF
   try dsimp only at hF
   unfold made_Mod.J1 at hF
   refine SQ [] [none, none] fun _ _ g r => ?_
   try simp [F1]
   and_intros <;> first | exact g _ (by kernel_rfl) | refine r _ _ _ ?_ | omega | (simp [maxLen, F1] <;> omega)
   refine WK [(4, Iz v3)] [] 0 (by simp [F1]) (by simp [F1]) ?_
   simp only [Option.some.injEq] at hF
   subst hF
   refine AW.ret (hQ _ _ _ ?_ (matchO_0 ?_)).1
   ·simp [Try.f27, F1]
   ·simp [F1]
theorem w_made_Dice_Next (k : Nat) (v0 : (List Int)) (v1 : Int) (v2 : Int) (v3 : Int) (v4 : Int) (hF : made_Dice_Next k v0 v1 v2 = some (v3, v4)) :
  FCall Try.prog 18 [AV.ptr 0 0, AV.int .i64 v2] [.cells [AV.lst false false (List.map (AV.int .i64) v0), AV.int .i64 v1]] (AV.int .i64 v3) [some (.cells [AV.lst false false (List.map (AV.int .i64) v0), AV.int .i64 v4])] := by
 unfold made_Dice_Next at hF
 refine EN Try.func18 ?_
 intro c0 w0 Q h0 hQ
 refine WK [(0, AV.ptr 0 0), (1, Iz v2)] [(0, .cells [Lz v0, Iz v1])] 1 (by simp) (by simp) ?_
 refine SQ [] [none] fun _ _ g r => ?_
 try simp
 and_intros <;> first | exact g _ (by kernel_rfl) | refine r _ _ _ ?_ | omega | (simp [maxLen] <;> omega)
 refine WK [(0, AV.ptr 0 0), (1, Iz v2)] [(0, .cells [Lz v0, Iz v1])] 1 (by simp) (by simp) ?_
 refine AW.seq fun K12 hK12 => ?_
 refine SQ [] [none, none, none, none, none, none, none, none, none, none] fun _ _ g r => ?_
 try simp
 and_intros <;> first | exact g _ (by kernel_rfl) | refine r _ _ _ ?_ | omega | (simp [maxLen] <;> omega)
 refine WK [(0, AV.ptr 0 0), (1, Iz v2), (14, AV.bool (decide ((v0.length : Int) ≤ v1)))] [(0, .cells [Lz v0, Iz v1])] 1 (by simp) (by simp) ?_
 by_cases h1 : (v0.length : Int) ≤ v1
 ·replace hF := ite_t h1 hF
  have h1_ := h1
  try simp at h1_
  refine CT (by simp [h1, h1_] <;> omega) ?_
  refine SQ [] [none] fun _ _ g r => ?_
  try simp [h1, h1_]
  and_intros <;> first | exact g _ (by kernel_rfl) | refine r _ _ _ ?_ | omega | (simp [h1, h1_, maxLen] <;> omega)
  refine WK [(4, Iz 0)] [(0, .cells [Lz v0, Iz v1])] 1 (by simp [h1, h1_]) (by simp [h1, h1_]) ?_
  simp only [Option.some.injEq, Prod.mk.injEq] at hF
  obtain ⟨e0, e1⟩ := hF
  subst e0 e1
  refine AW.ret (hQ _ _ _ ?_ (matchO_0 ?_)).1
  ·simp [Try.f18, h1, h1_]
  ·simp [h1, h1_]
 ·replace hF := ite_f h1 hF
  have h1_ := h1
  try simp at h1_
  refine CF (by simp [h1, h1_] <;> omega) ?_
  refine AW.skip ?_
  refine hK12 _ _ _ ?_
  refine SQ [] [none, none, none, none, none, none, none, none] fun _ _ g r => ?_
  try simp [h1, h1_]
  and_intros <;> first | exact g _ (by kernel_rfl) | refine r _ _ _ ?_ | omega | (simp [h1, h1_, maxLen] <;> omega)
  refine WK [(0, AV.ptr 0 0), (1, Iz v2)] [(0, .cells [Lz v0, Iz (IntKind.wrap .i64 (v1 + 1))])] 1 (by simp [h1, h1_]) (by simp [h1, h1_]) ?_
  refine SQ [] [none, none, none, none, none, none, none, none, none, none, none, none, none, none] fun _ _ g r => ?_
  obtain ⟨v5, h2, h3, h4, hF⟩ := idx_elim hF
  have h4_ := get_of h4
  try simp at h4_
  have h3_ := h3
  try simp at h3_
  have F1 := And.intro h1 (And.intro h1_ (And.intro h2 (And.intro h3 (And.intro h4 (And.intro h4_ h3_)))))
  try simp [F1]
  and_intros
  try any_goals first | omega | (simp [maxLen, F1] <;> omega)
  obtain ⟨v6, h5, hF⟩ := bnd1_elim hF
  refine AC (w_made_Mod k _ _ _ h5) (.cons (.same (by simp [F1])) (.cons (.same (by simp [F1])) .nil)) ?_
  try simp [F1]
  and_intros <;> first | exact g _ (by kernel_rfl) | refine r _ _ _ ?_ | omega | (simp [maxLen, F1] <;> omega)
  refine WK [(4, Iz v6)] [(0, .cells [Lz v0, Iz (IntKind.wrap .i64 (v1 + 1))])] 1 (by simp [F1]) (by simp [F1]) ?_
  simp only [Option.some.injEq, Prod.mk.injEq] at hF
  obtain ⟨e0, e1⟩ := hF
  subst e0 e1
  refine AW.ret (hQ _ _ _ ?_ (matchO_0 ?_)).1
  ·simp [Try.f18, F1]
  ·simp [F1]
theorem w_made_Dice_One (k : Nat) (v0 : (List Int)) (v1 : Int) (v2 : Int) (v3 : Bool) (v4 : Int) (hF : made_Dice_One k v0 v1 v2 = some (v3, v4)) :
  FCall Try.prog 36 [AV.ptr 0 0, AV.int .i64 v2] [.cells [AV.lst false false (List.map (AV.int .i64) v0), AV.int .i64 v1]] (AV.bool v3) [some (.cells [AV.lst false false (List.map (AV.int .i64) v0), AV.int .i64 v4])] := by
 unfold made_Dice_One at hF
 refine EN Try.func36 ?_
 intro c0 w0 Q h0 hQ
 refine WK [(0, AV.ptr 0 0), (1, Iz v2)] [(0, .cells [Lz v0, Iz v1])] 1 (by simp) (by simp) ?_
 refine SQ [] [none] fun _ _ g r => ?_
 try simp
 and_intros <;> first | exact g _ (by kernel_rfl) | refine r _ _ _ ?_ | omega | (simp [maxLen] <;> omega)
 refine WK [(0, AV.ptr 0 0), (1, Iz v2)] [(0, .cells [Lz v0, Iz v1])] 1 (by simp) (by simp) ?_
 refine SQ [] [none, none, none, none, none, none, none] fun _ _ g r => ?_
 try simp
 and_intros
 try any_goals first | omega | (simp [maxLen] <;> omega)
 obtain ⟨v5, v6, h1, hF⟩ := bnd2_elim hF
 refine aCall_l (w_made_Dice_Next k _ _ _ _ _ h1) (by simp) [0] [] [0] rfl (.cons (.same (by simp)) (.cons (.same (by simp)) .nil)) (by simp) (by decide) (by simp) (by simp) (.inl rfl) (by simp) (by simp) ?_
 try simp
 and_intros <;> first | exact g _ (by kernel_rfl) | refine r _ _ _ ?_ | omega | (simp [maxLen] <;> omega)
 refine WK [(4, AV.bool (v5 == (IntKind.wrap .i64 (v2 - 1))))] [(0, .cells [Lz v0, Iz v6])] 1 (by simp) (by simp) ?_
 simp only [Option.some.injEq, Prod.mk.injEq] at hF
 obtain ⟨e0, e1⟩ := hF
 subst e0 e1
 refine AW.ret (hQ _ _ _ ?_ (matchO_0 ?_)).1
 ·simp [Try.f36]
 ·simp
theorem w_ref11_Set (k : Nat) (v0 : (List Int)) (v1 : Int) (v2 : Bool) (hF : ref11_Set k v0 v1 = some v2) :
  FCall Try.prog 58 [AV.lst false false (List.map (AV.int .i64) v0), AV.int .i64 v1] [] (AV.bool v2) [] := by
 unfold ref11_Set at hF
 refine EN Try.func58 ?_
 intro c0 w0 Q h0 hQ
 refine WK [(0, Lz v0), (1, Iz v1)] [] 0 (by simp) (by simp) ?_
 refine SQ [] [none] fun _ _ g r => ?_
 try simp
 and_intros <;> first | exact g _ (by kernel_rfl) | refine r _ _ _ ?_ | omega | (simp [maxLen] <;> omega)
 refine WK [(0, Lz v0), (1, Iz v1)] [] 0 (by simp) (by simp) ?_
 refine AW.seq fun K155 hK155 => ?_
 refine SQ [] [none] fun _ _ g r => ?_
 try simp
 and_intros <;> first | exact g _ (by kernel_rfl) | refine r _ _ _ ?_ | omega | (simp [maxLen] <;> omega)
 refine WK [(0, Lz v0), (1, Iz v1), (5, Iz 0)] [] 0 (by simp) (by simp) ?_
 refine AW.block ?_
 refine AW.loopF (α := Int) (fun n v3 => ref11_Set.L1 k v0 v1 n v3 = some v2) (fun v3 => [(0, Lz v0), (1, Iz v1), (5, Iz v3)]) (fun v3 => []) 0 k (0) hF (by simp) (by simp) (by simp) ?_
 rintro (_|n1) v3 hF K192 hK192
 ·try dsimp only at hF
  rw [ref11_Set.L1] at hF; cases hF
 try dsimp only at hF
 rw [ref11_Set.L1] at hF
 refine AW.seq fun K194 hK194 => ?_
 refine SQ [] [none, none, none, none] fun _ _ g r => ?_
 try simp
 and_intros <;> first | exact g _ (by kernel_rfl) | refine r _ _ _ ?_ | omega | (simp [maxLen] <;> omega)
 refine WK [(0, Lz v0), (1, Iz v1), (5, Iz v3), (9, AV.bool (decide (v3 < (v0.length : Int))))] [] 0 (by simp) (by simp) ?_
 by_cases h1 : v3 < (v0.length : Int)
 ·replace hF := ite_t h1 hF
  have h1_ := h1
  try simp at h1_
  refine CT (by simp [h1, h1_] <;> omega) ?_
  refine AW.skip ?_
  refine hK194 _ _ _ ?_
  refine AW.midF (α := Unit) (fun _ => ref11_Set.J2 k v3 (fun v3_ => ref11_Set.L1 k v0 v1 n1 v3_) = some v2) (fun _ => [(0, Lz v0), (1, Iz v1), (5, Iz v3)]) (fun _ => []) 0 (fun K201 hK201 => ?_) ?_
  ·refine AW.block ?_
   refine SQ [] [none, none, none, none, none, none, some (17, false), some (17, false), some (17, false), some (17, false), some (17, false), some (17, false), none, none, some (25, false), some (25, false), some (25, false), some (28, true), some (28, true), some (28, true), some (28, true), some (28, true), some (28, true), some (28, true), some (28, true), some (28, true), some (28, true), some (25, false), none] fun _ _ g r => ?_
   obtain ⟨v4, h2, h3, h4, hF⟩ := idx_elim hF
   have h4_ := get_of h4
   try simp at h4_
   have h3_ := h3
   try simp at h3_
   by_cases h5 : v4 < 0
   ·replace hF := ite_t h5 hF
    have h5_ := h5
    try simp at h5_
    have F1 := And.intro h1 (And.intro h1_ (And.intro h2 (And.intro h3 (And.intro h4 (And.intro h4_ (And.intro h3_ (And.intro h5 h5_)))))))
    try simp [F1]
    and_intros <;> first | exact g _ (by kernel_rfl) | refine r _ _ _ ?_ | omega | (simp [maxLen, F1] <;> omega)
    refine WK [(0, Lz v0), (1, Iz v1), (5, Iz v3), (40, AV.bool true)] [] 0 (by simp [F1]) (by simp [F1]) ?_
    refine CT (by simp [F1]) ?_
    refine SQ [] [none] fun _ _ g r => ?_
    try simp [F1]
    and_intros <;> first | exact g _ (by kernel_rfl) | refine r _ _ _ ?_ | omega | (simp [maxLen, F1] <;> omega)
    refine WK [(4, AV.bool false)] [] 0 (by simp [F1]) (by simp [F1]) ?_
    simp only [Option.some.injEq] at hF
    subst hF
    refine AW.ret (hQ _ _ _ ?_ (matchO_0 ?_)).1
    ·simp [Try.f58, F1]
    ·simp [F1]
   ·replace hF := ite_f h5 hF
    have h5_ := h5
    try simp at h5_
    by_cases h6 : v1 ≤ v4
    ·replace hF := ite_t h6 hF
     have h6_ := h6
     try simp at h6_
     have F2 := And.intro h1 (And.intro h1_ (And.intro h2 (And.intro h3 (And.intro h4 (And.intro h4_ (And.intro h3_ (And.intro h5 (And.intro h5_ (And.intro h6 h6_)))))))))
     try simp [F2]
     and_intros <;> first | exact g _ (by kernel_rfl) | refine r _ _ _ ?_ | omega | (simp [maxLen, F2] <;> omega)
     refine WK [(0, Lz v0), (1, Iz v1), (5, Iz v3), (40, AV.bool true)] [] 0 (by simp [F2]) (by simp [F2]) ?_
     refine CT (by simp [F2]) ?_
     refine SQ [] [none] fun _ _ g r => ?_
     try simp [F2]
     and_intros <;> first | exact g _ (by kernel_rfl) | refine r _ _ _ ?_ | omega | (simp [maxLen, F2] <;> omega)
     refine WK [(4, AV.bool false)] [] 0 (by simp [F2]) (by simp [F2]) ?_
     simp only [Option.some.injEq] at hF
     subst hF
     refine AW.ret (hQ _ _ _ ?_ (matchO_0 ?_)).1
     ·simp [Try.f58, F2]
     ·simp [F2]
    ·replace hF := ite_f h6 hF
     have h6_ := h6
     try simp at h6_
     by_cases h7 : 0 < v3
     ·replace hF := ite_t h7 hF
      have h7_ := h7
      try simp at h7_
      obtain ⟨v5, h8, h9, h10, hF⟩ := idx_elim hF
      have h10_ := get_of h10
      try simp at h10_
      have h9_ := h9
      try simp at h9_
      have F3 := And.intro h1 (And.intro h1_ (And.intro h2 (And.intro h3 (And.intro h4 (And.intro h4_ (And.intro h3_ (And.intro h5 (And.intro h5_ (And.intro h6 (And.intro h6_ (And.intro h7 (And.intro h7_ (And.intro h8 (And.intro h9 (And.intro h10 (And.intro h10_ h9_))))))))))))))))
      try simp [F3]
      and_intros <;> first | exact g _ (by kernel_rfl) | refine r _ _ _ ?_ | omega | (simp [maxLen, F3] <;> omega)
      refine WK [(0, Lz v0), (1, Iz v1), (5, Iz v3), (40, AV.bool (decide (v4 ≤ v5)))] [] 0 (by simp [F3]) (by simp [F3]) ?_
      by_cases h11 : v4 ≤ v5
      ·replace hF := ite_t h11 hF
       have h11_ := h11
       try simp at h11_
       have F4 := And.intro F3 (And.intro h11 h11_)
       refine CT (by simp [F4] <;> omega) ?_
       refine SQ [] [none] fun _ _ g r => ?_
       try simp [F4]
       and_intros <;> first | exact g _ (by kernel_rfl) | refine r _ _ _ ?_ | omega | (simp [maxLen, F4] <;> omega)
       refine WK [(4, AV.bool false)] [] 0 (by simp [F4]) (by simp [F4]) ?_
       simp only [Option.some.injEq] at hF
       subst hF
       refine AW.ret (hQ _ _ _ ?_ (matchO_0 ?_)).1
       ·simp [Try.f58, F4]
       ·simp [F4]
      ·replace hF := ite_f h11 hF
       have h11_ := h11
       try simp at h11_
       have F5 := And.intro F3 (And.intro h11 h11_)
       refine CF (by simp [F5] <;> omega) ?_
       refine AW.skip ?_
       refine hK201 _ _ _ ?_
       exact JN (()) hF (by simp [F5]) (by simp [F5])
     ·replace hF := ite_f h7 hF
      have h7_ := h7
      try simp at h7_
      have F6 := And.intro h1 (And.intro h1_ (And.intro h2 (And.intro h3 (And.intro h4 (And.intro h4_ (And.intro h3_ (And.intro h5 (And.intro h5_ (And.intro h6 (And.intro h6_ (And.intro h7 h7_)))))))))))
      try simp [F6]
      and_intros <;> first | exact g _ (by kernel_rfl) | refine r _ _ _ ?_ | omega | (simp [maxLen, F6] <;> omega)
      refine WK [(0, Lz v0), (1, Iz v1), (5, Iz v3), (40, AV.bool false)] [] 0 (by simp [F6]) (by simp [F6]) ?_
      refine CF (by simp [F6]) ?_
      refine AW.skip ?_
      refine hK201 _ _ _ ?_
      exact JN (()) hF (by simp [F6]) (by simp [F6])
  ·rintro ⟨⟩ hF
   try dsimp only at hF
   unfold ref11_Set.J2 at hF
   refine RG [] [none, none, none] fun _ _ g r => ?_
   try simp [h1, h1_]
   and_intros <;> first | exact g _ (by kernel_rfl) | refine r _ _ _ ?_ | omega | (simp [h1, h1_, maxLen] <;> omega)
   refine hK192 _ _ _ ?_
   exact NX (k' := n1) (IntKind.wrap .i64 (v3 + 1)) hF (by simp [h1, h1_]) (by simp [h1, h1_])
 ·replace hF := ite_f h1 hF
  have h1_ := h1
  try simp at h1_
  refine CF (by simp [h1, h1_] <;> omega) ?_
  refine AW.exit ?_
  try simp
  refine hK155 _ _ _ ?_
  refine SQ [] [none] fun _ _ g r => ?_
  try simp [h1, h1_]
  and_intros <;> first | exact g _ (by kernel_rfl) | refine r _ _ _ ?_ | omega | (simp [h1, h1_, maxLen] <;> omega)
  refine WK [(4, AV.bool true)] [] 0 (by simp [h1, h1_]) (by simp [h1, h1_]) ?_
  simp only [Option.some.injEq] at hF
  subst hF
  refine AW.ret (hQ _ _ _ ?_ (matchO_0 ?_)).1
  ·simp [Try.f58, h1, h1_]
  ·simp [h1, h1_]
theorem w_ref11_Has (k : Nat) (v0 : (List Int)) (v1 : Int) (v2 : Bool) (hF : ref11_Has k v0 v1 = some v2) :
  FCall Try.prog 24 [AV.lst false false (List.map (AV.int .i64) v0), AV.int .i64 v1] [] (AV.bool v2) [] := by
 unfold ref11_Has at hF
 refine EN Try.func24 ?_
 intro c0 w0 Q h0 hQ
 refine WK [(0, Lz v0), (1, Iz v1)] [] 0 (by simp) (by simp) ?_
 refine SQ [] [none] fun _ _ g r => ?_
 try simp
 and_intros <;> first | exact g _ (by kernel_rfl) | refine r _ _ _ ?_ | omega | (simp [maxLen] <;> omega)
 refine WK [(0, Lz v0), (1, Iz v1)] [] 0 (by simp) (by simp) ?_
 refine AW.seq fun K119 hK119 => ?_
 refine SQ [] [none] fun _ _ g r => ?_
 try simp
 and_intros <;> first | exact g _ (by kernel_rfl) | refine r _ _ _ ?_ | omega | (simp [maxLen] <;> omega)
 refine WK [(0, Lz v0), (1, Iz v1), (5, Iz 0)] [] 0 (by simp) (by simp) ?_
 refine AW.block ?_
 refine AW.loopF (α := Int) (fun n v3 => ref11_Has.L1 k v0 v1 n v3 = some v2) (fun v3 => [(0, Lz v0), (1, Iz v1), (5, Iz v3)]) (fun v3 => []) 0 k (0) hF (by simp) (by simp) (by simp) ?_
 rintro (_|n1) v3 hF K148 hK148
 ·try dsimp only at hF
  rw [ref11_Has.L1] at hF; cases hF
 try dsimp only at hF
 rw [ref11_Has.L1] at hF
 refine AW.seq fun K150 hK150 => ?_
 refine SQ [] [none, none, none, none] fun _ _ g r => ?_
 try simp
 and_intros <;> first | exact g _ (by kernel_rfl) | refine r _ _ _ ?_ | omega | (simp [maxLen] <;> omega)
 refine WK [(0, Lz v0), (1, Iz v1), (5, Iz v3), (9, AV.bool (decide (v3 < (v0.length : Int))))] [] 0 (by simp) (by simp) ?_
 by_cases h1 : v3 < (v0.length : Int)
 ·replace hF := ite_t h1 hF
  have h1_ := h1
  try simp at h1_
  refine CT (by simp [h1, h1_] <;> omega) ?_
  refine AW.skip ?_
  refine hK150 _ _ _ ?_
  refine AW.seq fun K154 hK154 => ?_
  refine AW.block ?_
  refine SQ [] [none, none, none, none, none, none] fun _ _ g r => ?_
  obtain ⟨v4, h2, h3, h4, hF⟩ := idx_elim hF
  have h4_ := get_of h4
  try simp at h4_
  have h3_ := h3
  try simp at h3_
  have F1 := And.intro h1 (And.intro h1_ (And.intro h2 (And.intro h3 (And.intro h4 (And.intro h4_ h3_)))))
  try simp [F1]
  and_intros <;> first | exact g _ (by kernel_rfl) | refine r _ _ _ ?_ | omega | (simp [maxLen, F1] <;> omega)
  refine WK [(0, Lz v0), (1, Iz v1), (5, Iz v3), (17, AV.bool (v4 == v1))] [] 0 (by simp [F1]) (by simp [F1]) ?_
  by_cases h5 : v4 = v1
  ·replace hF := ite_t h5 hF
   have h5q : v4 = v1 := h5
   have h5_ := eqb_t h5q
   have h5__ := neb_f h5q
   have F2 := And.intro F1 (And.intro h5_ h5__)
   refine CT (by simp [F2] <;> omega) ?_
   refine SQ [] [none] fun _ _ g r => ?_
   try simp [F2]
   and_intros <;> first | exact g _ (by kernel_rfl) | refine r _ _ _ ?_ | omega | (simp [maxLen, F2] <;> omega)
   refine WK [(4, AV.bool true)] [] 0 (by simp [F2]) (by simp [F2]) ?_
   simp only [Option.some.injEq] at hF
   subst hF
   refine AW.ret (hQ _ _ _ ?_ (matchO_0 ?_)).1
   ·simp [Try.f24, F2]
   ·simp [F2]
  ·replace hF := ite_f h5 hF
   have h5_ := eqb_f h5
   have h5__ := neb_t h5
   have F3 := And.intro F1 (And.intro h5 (And.intro h5_ h5__))
   refine CF (by simp [F3] <;> omega) ?_
   refine AW.skip ?_
   refine hK154 _ _ _ ?_
   refine RG [] [none, none, none] fun _ _ g r => ?_
   try simp [F3]
   and_intros <;> first | exact g _ (by kernel_rfl) | refine r _ _ _ ?_ | omega | (simp [maxLen, F3] <;> omega)
   refine hK148 _ _ _ ?_
   exact NX (k' := n1) (IntKind.wrap .i64 (v3 + 1)) hF (by simp [F3]) (by simp [F3])
 ·replace hF := ite_f h1 hF
  have h1_ := h1
  try simp at h1_
  refine CF (by simp [h1, h1_] <;> omega) ?_
  refine AW.exit ?_
  try simp
  refine hK119 _ _ _ ?_
  refine SQ [] [none] fun _ _ g r => ?_
  try simp [h1, h1_]
  and_intros <;> first | exact g _ (by kernel_rfl) | refine r _ _ _ ?_ | omega | (simp [h1, h1_, maxLen] <;> omega)
  refine WK [(4, AV.bool false)] [] 0 (by simp [h1, h1_]) (by simp [h1, h1_]) ?_
  simp only [Option.some.injEq] at hF
  subst hF
  refine AW.ret (hQ _ _ _ ?_ (matchO_0 ?_)).1
  ·simp [Try.f24, h1, h1_]
  ·simp [h1, h1_]
theorem w_ref11_before (k : Nat) (v0 : Int) (v1 : Int) (v2 : Int) (v3 : Int) (v4 : Int) (v5 : Int) (v6 : Bool) (hF : ref11_before k v0 v1 v2 v3 v4 v5 = some v6) :
  FCall Try.prog 59 [AV.agg [AV.int .i64 v0, AV.int .i64 v1, AV.int .i64 v2], AV.agg [AV.int .i64 v3, AV.int .i64 v4, AV.int .i64 v5]] [] (AV.bool v6) [] := by
 unfold ref11_before at hF
 refine EN Try.func59 ?_
 intro c0 w0 Q h0 hQ
 refine WK [(0, AV.agg [Iz v0, Iz v1, Iz v2]), (1, AV.agg [Iz v3, Iz v4, Iz v5])] [] 0 (by simp) (by simp) ?_
 refine SQ [] [none, none, none] fun _ _ g r => ?_
 try simp
 and_intros <;> first | exact g _ (by kernel_rfl) | refine r _ _ _ ?_ | omega | (simp [maxLen] <;> omega)
 refine WK [(2, AV.ptr 0 0), (3, AV.ptr 1 0)] [(0, .cells [Iz v0, Iz v1, Iz v2]), (1, .cells [Iz v3, Iz v4, Iz v5])] 2 (by simp) (by simp) ?_
 refine SQ [] [none, none, none, none, none, none, some (10, false), some (10, false), some (10, false), some (10, false), some (10, false), some (10, false), some (16, true), some (16, true), some (16, true), some (16, true), some (16, true), some (10, false), none, none] fun _ _ g r => ?_
 by_cases h1 : v0 < v3
 ·replace hF := ite_t h1 hF
  have h1_ := h1
  try simp at h1_
  try simp [h1, h1_]
  and_intros <;> first | exact g _ (by kernel_rfl) | refine r _ _ _ ?_ | omega | (simp [h1, h1_, maxLen] <;> omega)
  refine WK [(4, AV.bool true)] [] 2 (by simp [h1, h1_]) (by simp [h1, h1_]) ?_
  simp only [Option.some.injEq] at hF
  subst hF
  refine AW.ret (hQ _ _ _ ?_ (matchO_0 ?_)).1
  ·simp [Try.f59, h1, h1_]
  ·simp [h1, h1_]
 ·replace hF := ite_f h1 hF
  have h1_ := h1
  try simp at h1_
  by_cases h2 : v0 = v3
  ·replace hF := ite_t h2 hF
   have h2q : v0 = v3 := h2
   have h2_ := eqb_t h2q
   have h2__ := neb_f h2q
   have F1 := And.intro h1 (And.intro h1_ (And.intro h2_ h2__))
   try simp [F1]
   and_intros <;> first | exact g _ (by kernel_rfl) | refine r _ _ _ ?_ | omega | (simp [maxLen, F1] <;> omega)
   refine WK [(4, AV.bool (decide (v1 < v4)))] [] 2 (by simp [F1]) (by simp [F1]) ?_
   simp only [Option.some.injEq] at hF
   subst hF
   refine AW.ret (hQ _ _ _ ?_ (matchO_0 ?_)).1
   ·simp [Try.f59, F1]
   ·simp [F1]
  ·replace hF := ite_f h2 hF
   have h2_ := eqb_f h2
   have h2__ := neb_t h2
   have F2 := And.intro h1 (And.intro h1_ (And.intro h2 (And.intro h2_ h2__)))
   try simp [F2]
   and_intros <;> first | exact g _ (by kernel_rfl) | refine r _ _ _ ?_ | omega | (simp [maxLen, F2] <;> omega)
   refine WK [(4, AV.bool false)] [] 2 (by simp [F2]) (by simp [F2]) ?_
   simp only [Option.some.injEq] at hF
   subst hF
   refine AW.ret (hQ _ _ _ ?_ (matchO_0 ?_)).1
   ·simp [Try.f59, F2]
   ·simp [F2]
theorem w_ref11_Check (k : Nat) (v0 : Int) (v1 : (List api_Edge)) (v2 : (List Int)) (v3 : Int) (hF : ref11_Check k v0 v1 v2 = some v3) :
  FCall Try.prog 41 [AV.agg [AV.int .i64 v0, AV.lst false false (List.map api_Edge.av v1), AV.lst false false (List.map (AV.int .i64) v2)]] [] (AV.int .i64 v3) [] := by
 unfold ref11_Check at hF
 refine EN Try.func41 ?_
 intro c0 w0 Q h0 hQ
 refine WK [(0, AV.agg [Iz v0, AV.lst false false (List.map api_Edge.av v1), Lz v2])] [] 0 (by simp) (by simp) ?_
 refine SQ [] [none, none] fun _ _ g r => ?_
 try simp
 and_intros <;> first | exact g _ (by kernel_rfl) | refine r _ _ _ ?_ | omega | (simp [maxLen] <;> omega)
 refine WK [(1, AV.ptr 0 0)] [(0, .cells [Iz v0, AV.lst false false (List.map api_Edge.av v1), Lz v2])] 1 (by simp) (by simp) ?_
 refine AW.seq fun K401 hK401 => ?_
 refine SQ [] [none, none, none, none, some (8, false), some (8, false), some (8, false), none, none, some (13, false), some (13, false), some (13, false), some (13, false), none, none, some (19, false), some (19, false), some (19, false), some (19, false), some (19, false), some (19, false), none] fun _ _ g r => ?_
 by_cases h1 : v0 < 0
 ·replace hF := ite_t h1 hF
  have h1_ := h1
  try simp at h1_
  try simp [h1, h1_]
  and_intros <;> first | exact g _ (by kernel_rfl) | refine r _ _ _ ?_ | omega | (simp [h1, h1_, maxLen] <;> omega)
  refine WK [(1, AV.ptr 0 0), (26, AV.bool true)] [(0, .cells [Iz v0, AV.lst false false (List.map api_Edge.av v1), Lz v2])] 1 (by simp [h1, h1_]) (by simp [h1, h1_]) ?_
  refine CT (by simp [h1, h1_]) ?_
  refine SQ [] [none] fun _ _ g r => ?_
  try simp [h1, h1_]
  and_intros <;> first | exact g _ (by kernel_rfl) | refine r _ _ _ ?_ | omega | (simp [h1, h1_, maxLen] <;> omega)
  refine WK [(2, Iz 14)] [] 1 (by simp [h1, h1_]) (by simp [h1, h1_]) ?_
  simp only [Option.some.injEq] at hF
  subst hF
  refine AW.ret (hQ _ _ _ ?_ (matchO_0 ?_)).1
  ·simp [Try.f41, h1, h1_]
  ·simp [h1, h1_]
 ·replace hF := ite_f h1 hF
  have h1_ := h1
  try simp at h1_
  by_cases h2 : 64 < v0
  ·replace hF := ite_t h2 hF
   have h2_ := h2
   try simp at h2_
   have F1 := And.intro h1 (And.intro h1_ (And.intro h2 h2_))
   try simp [F1]
   and_intros <;> first | exact g _ (by kernel_rfl) | refine r _ _ _ ?_ | omega | (simp [maxLen, F1] <;> omega)
   refine WK [(1, AV.ptr 0 0), (26, AV.bool true)] [(0, .cells [Iz v0, AV.lst false false (List.map api_Edge.av v1), Lz v2])] 1 (by simp [F1]) (by simp [F1]) ?_
   refine CT (by simp [F1]) ?_
   refine SQ [] [none] fun _ _ g r => ?_
   try simp [F1]
   and_intros <;> first | exact g _ (by kernel_rfl) | refine r _ _ _ ?_ | omega | (simp [maxLen, F1] <;> omega)
   refine WK [(2, Iz 14)] [] 1 (by simp [F1]) (by simp [F1]) ?_
   simp only [Option.some.injEq] at hF
   subst hF
   refine AW.ret (hQ _ _ _ ?_ (matchO_0 ?_)).1
   ·simp [Try.f41, F1]
   ·simp [F1]
  ·replace hF := ite_f h2 hF
   have h2_ := h2
   try simp at h2_
   by_cases h3 : 500 < (v1.length : Int)
   ·replace hF := ite_t h3 hF
    have h3_ := h3
    try simp at h3_
    have F2 := And.intro h1 (And.intro h1_ (And.intro h2 (And.intro h2_ (And.intro h3 h3_))))
    try simp [F2]
    and_intros <;> first | exact g _ (by kernel_rfl) | refine r _ _ _ ?_ | omega | (simp [maxLen, F2] <;> omega)
    refine WK [(1, AV.ptr 0 0), (26, AV.bool true)] [(0, .cells [Iz v0, AV.lst false false (List.map api_Edge.av v1), Lz v2])] 1 (by simp [F2]) (by simp [F2]) ?_
    refine CT (by simp [F2]) ?_
    refine SQ [] [none] fun _ _ g r => ?_
    try simp [F2]
    and_intros <;> first | exact g _ (by kernel_rfl) | refine r _ _ _ ?_ | omega | (simp [maxLen, F2] <;> omega)
    refine WK [(2, Iz 14)] [] 1 (by simp [F2]) (by simp [F2]) ?_
    simp only [Option.some.injEq] at hF
    subst hF
    refine AW.ret (hQ _ _ _ ?_ (matchO_0 ?_)).1
    ·simp [Try.f41, F2]
    ·simp [F2]
   ·replace hF := ite_f h3 hF
    have h3_ := h3
    try simp at h3_
    have F3 := And.intro h1 (And.intro h1_ (And.intro h2 (And.intro h2_ (And.intro h3 h3_))))
    try simp [F3]
    and_intros
    try any_goals first | omega | (simp [maxLen, F3] <;> omega)
    obtain ⟨v4, h4, hF⟩ := bnd1_elim hF
    refine AC (w_ref11_Set k _ _ _ h4) (.cons (.same (by simp [F3])) (.cons (.same (by simp [F3])) .nil)) ?_
    try simp [F3]
    and_intros <;> first | exact g _ (by kernel_rfl) | refine r _ _ _ ?_ | omega | (simp [maxLen, F3] <;> omega)
    refine WK [(1, AV.ptr 0 0), (26, AV.bool (!v4))] [(0, .cells [Iz v0, AV.lst false false (List.map api_Edge.av v1), Lz v2])] 1 (by simp [F3]) (by simp [F3]) ?_
    by_cases h5 : (!v4) = true
    ·replace hF := ite_t h5 hF
     have h5_ := h5
     try simp at h5_
     have F4 := And.intro F3 (And.intro h5 h5_)
     refine CT (by simp [F4] <;> omega) ?_
     refine SQ [] [none] fun _ _ g r => ?_
     try simp [F4]
     and_intros <;> first | exact g _ (by kernel_rfl) | refine r _ _ _ ?_ | omega | (simp [maxLen, F4] <;> omega)
     refine WK [(2, Iz 14)] [] 1 (by simp [F4]) (by simp [F4]) ?_
     simp only [Option.some.injEq] at hF
     subst hF
     refine AW.ret (hQ _ _ _ ?_ (matchO_0 ?_)).1
     ·simp [Try.f41, F4]
     ·simp [F4]
    ·replace hF := ite_f h5 hF
     have h5_ := h5
     try simp at h5_
     have F5 := And.intro F3 (And.intro h5 h5_)
     refine CF (by simp [F5] <;> omega) ?_
     refine AW.skip ?_
     refine hK401 _ _ _ ?_
     refine AW.seq fun K597 hK597 => ?_
     refine SQ [] [none] fun _ _ g r => ?_
     try simp [F5]
     and_intros <;> first | exact g _ (by kernel_rfl) | refine r _ _ _ ?_ | omega | (simp [maxLen, F5] <;> omega)
     refine WK [(1, AV.ptr 0 0), (3, Iz 0)] [(0, .cells [Iz v0, AV.lst false false (List.map api_Edge.av v1), Lz v2])] 1 (by simp [F5]) (by simp [F5]) ?_
     refine AW.block ?_
     refine AW.loopF (α := Int) (fun n v5 => ref11_Check.L1 k v0 v1 v2 n v5 = some v3) (fun v5 => [(1, AV.ptr 0 0), (3, Iz v5)]) (fun v5 => [(0, .cells [Iz v0, AV.lst false false (List.map api_Edge.av v1), Lz v2])]) 1 k (0) hF (by simp [F5]) (by simp [F5]) (by simp) ?_
     rintro (_|n1) v5 hF K740 hK740
     ·try dsimp only at hF
      rw [ref11_Check.L1] at hF; cases hF
     try dsimp only at hF
     rw [ref11_Check.L1] at hF
     refine AW.seq fun K742 hK742 => ?_
     refine SQ [] [none, none, none, none, none] fun _ _ g r => ?_
     try simp [F5]
     and_intros <;> first | exact g _ (by kernel_rfl) | refine r _ _ _ ?_ | omega | (simp [maxLen, F5] <;> omega)
     refine WK [(1, AV.ptr 0 0), (3, Iz v5), (31, AV.bool (decide (v5 < (v1.length : Int))))] [(0, .cells [Iz v0, AV.lst false false (List.map api_Edge.av v1), Lz v2])] 1 (by simp [F5]) (by simp [F5]) ?_
     by_cases h6 : v5 < (v1.length : Int)
     ·replace hF := ite_t h6 hF
      have h6_ := h6
      try simp at h6_
      have F6 := And.intro F5 (And.intro h6 h6_)
      refine CT (by simp [F6] <;> omega) ?_
      refine AW.skip ?_
      refine hK742 _ _ _ ?_
      refine AW.seq fun K765 hK765 => ?_
      refine AW.block ?_
      refine SQ [] [none, none, none, none, none, none, none] fun _ _ g r => ?_
      obtain ⟨v6, h7, h8, h9, hF⟩ := idx_elim hF
      have h9_ := get_of h9
      try simp at h9_
      have h8_ := h8
      try simp at h8_
      have F7 := And.intro F6 (And.intro h7 (And.intro h8 (And.intro h9 (And.intro h9_ h8_))))
      try simp [F7]
      and_intros <;> first | exact g _ (by kernel_rfl) | refine r _ _ _ ?_ | omega | (simp [maxLen, F7] <;> omega)
      refine WK [(1, AV.ptr 0 0), (3, Iz v5), (4, AV.ptr 1 0)] [(0, .cells [Iz v0, AV.lst false false (List.map api_Edge.av v1), Lz v2]), (1, .cells [Iz v6.From, Iz v6.To, Iz v6.Level])] 2 (by simp [F7]) (by simp [F7]) ?_
      refine AW.seq fun K775 hK775 => ?_
      refine SQ [] [none, none, none, none, some (42, false), some (42, false), some (42, false), some (42, false), some (42, false), none, none, some (49, false), some (49, false), some (49, false), none, none, some (54, false), some (54, false), some (54, false), some (54, false), some (54, false), none, none, some (61, false), some (61, false), some (61, false), some (61, false), some (61, false), none, none, some (68, false), some (68, false), some (68, false), none, none, some (73, false), some (73, false), some (73, false), none] fun _ _ g r => ?_
      by_cases h10 : v6.From < 0
      ·replace hF := ite_t h10 hF
       have h10_ := h10
       try simp at h10_
       have F8 := And.intro F7 (And.intro h10 h10_)
       try simp [F8]
       and_intros <;> first | exact g _ (by kernel_rfl) | refine r _ _ _ ?_ | omega | (simp [maxLen, F8] <;> omega)
       refine WK [(1, AV.ptr 0 0), (3, Iz v5), (4, AV.ptr 1 0), (77, AV.bool true)] [(0, .cells [Iz v0, AV.lst false false (List.map api_Edge.av v1), Lz v2]), (1, .cells [Iz v6.From, Iz v6.To, Iz v6.Level])] 2 (by simp [F8]) (by simp [F8]) ?_
       refine CT (by simp [F8]) ?_
       refine SQ [] [none] fun _ _ g r => ?_
       try simp [F8]
       and_intros <;> first | exact g _ (by kernel_rfl) | refine r _ _ _ ?_ | omega | (simp [maxLen, F8] <;> omega)
       refine WK [(2, Iz 14)] [] 2 (by simp [F8]) (by simp [F8]) ?_
       simp only [Option.some.injEq] at hF
       subst hF
       refine AW.ret (hQ _ _ _ ?_ (matchO_0 ?_)).1
       ·simp [Try.f41, F8]
       ·simp [F8]
      ·replace hF := ite_f h10 hF
       have h10_ := h10
       try simp at h10_
       by_cases h11 : v0 ≤ v6.From
       ·replace hF := ite_t h11 hF
        have h11_ := h11
        try simp at h11_
        have F9 := And.intro F7 (And.intro h10 (And.intro h10_ (And.intro h11 h11_)))
        try simp [F9]
        and_intros <;> first | exact g _ (by kernel_rfl) | refine r _ _ _ ?_ | omega | (simp [maxLen, F9] <;> omega)
        refine WK [(1, AV.ptr 0 0), (3, Iz v5), (4, AV.ptr 1 0), (77, AV.bool true)] [(0, .cells [Iz v0, AV.lst false false (List.map api_Edge.av v1), Lz v2]), (1, .cells [Iz v6.From, Iz v6.To, Iz v6.Level])] 2 (by simp [F9]) (by simp [F9]) ?_
        refine CT (by simp [F9]) ?_
        refine SQ [] [none] fun _ _ g r => ?_
        try simp [F9]
        and_intros <;> first | exact g _ (by kernel_rfl) | refine r _ _ _ ?_ | omega | (simp [maxLen, F9] <;> omega)
        refine WK [(2, Iz 14)] [] 2 (by simp [F9]) (by simp [F9]) ?_
        simp only [Option.some.injEq] at hF
        subst hF
        refine AW.ret (hQ _ _ _ ?_ (matchO_0 ?_)).1
        ·simp [Try.f41, F9]
        ·simp [F9]
       ·replace hF := ite_f h11 hF
        have h11_ := h11
        try simp at h11_
        by_cases h12 : v6.To < 0
        ·replace hF := ite_t h12 hF
         have h12_ := h12
         try simp at h12_
         have F10 := And.intro F7 (And.intro h10 (And.intro h10_ (And.intro h11 (And.intro h11_ (And.intro h12 h12_)))))
         try simp [F10]
         and_intros <;> first | exact g _ (by kernel_rfl) | refine r _ _ _ ?_ | omega | (simp [maxLen, F10] <;> omega)
         refine WK [(1, AV.ptr 0 0), (3, Iz v5), (4, AV.ptr 1 0), (77, AV.bool true)] [(0, .cells [Iz v0, AV.lst false false (List.map api_Edge.av v1), Lz v2]), (1, .cells [Iz v6.From, Iz v6.To, Iz v6.Level])] 2 (by simp [F10]) (by simp [F10]) ?_
         refine CT (by simp [F10]) ?_
         refine SQ [] [none] fun _ _ g r => ?_
         try simp [F10]
         and_intros <;> first | exact g _ (by kernel_rfl) | refine r _ _ _ ?_ | omega | (simp [maxLen, F10] <;> omega)
         refine WK [(2, Iz 14)] [] 2 (by simp [F10]) (by simp [F10]) ?_
         simp only [Option.some.injEq] at hF
         subst hF
         refine AW.ret (hQ _ _ _ ?_ (matchO_0 ?_)).1
         ·simp [Try.f41, F10]
         ·simp [F10]
        ·replace hF := ite_f h12 hF
         have h12_ := h12
         try simp at h12_
         by_cases h13 : v0 ≤ v6.To
         ·replace hF := ite_t h13 hF
          have h13_ := h13
          try simp at h13_
          have F11 := And.intro F7 (And.intro h10 (And.intro h10_ (And.intro h11 (And.intro h11_ (And.intro h12 (And.intro h12_ (And.intro h13 h13_)))))))
          try simp [F11]
          and_intros <;> first | exact g _ (by kernel_rfl) | refine r _ _ _ ?_ | omega | (simp [maxLen, F11] <;> omega)
          refine WK [(1, AV.ptr 0 0), (3, Iz v5), (4, AV.ptr 1 0), (77, AV.bool true)] [(0, .cells [Iz v0, AV.lst false false (List.map api_Edge.av v1), Lz v2]), (1, .cells [Iz v6.From, Iz v6.To, Iz v6.Level])] 2 (by simp [F11]) (by simp [F11]) ?_
          refine CT (by simp [F11]) ?_
          refine SQ [] [none] fun _ _ g r => ?_
          try simp [F11]
          and_intros <;> first | exact g _ (by kernel_rfl) | refine r _ _ _ ?_ | omega | (simp [maxLen, F11] <;> omega)
          refine WK [(2, Iz 14)] [] 2 (by simp [F11]) (by simp [F11]) ?_
          simp only [Option.some.injEq] at hF
          subst hF
          refine AW.ret (hQ _ _ _ ?_ (matchO_0 ?_)).1
          ·simp [Try.f41, F11]
          ·simp [F11]
         ·replace hF := ite_f h13 hF
          have h13_ := h13
          try simp at h13_
          by_cases h14 : v6.From = v6.To
          ·replace hF := ite_t h14 hF
           have h14q : v6.From = v6.To := h14
           have h14_ := eqb_t h14q
           have h14__ := neb_f h14q
           have F12 := And.intro F7 (And.intro h10 (And.intro h10_ (And.intro h11 (And.intro h11_ (And.intro h12 (And.intro h12_ (And.intro h13 (And.intro h13_ (And.intro h14_ h14__)))))))))
           try simp [F12]
           and_intros <;> first | exact g _ (by kernel_rfl) | refine r _ _ _ ?_ | omega | (simp [maxLen, F12] <;> omega)
           refine WK [(1, AV.ptr 0 0), (3, Iz v5), (4, AV.ptr 1 0), (77, AV.bool true)] [(0, .cells [Iz v0, AV.lst false false (List.map api_Edge.av v1), Lz v2]), (1, .cells [Iz v6.From, Iz v6.To, Iz v6.Level])] 2 (by simp [F12]) (by simp [F12]) ?_
           refine CT (by simp [F12]) ?_
           refine SQ [] [none] fun _ _ g r => ?_
           try simp [F12]
           and_intros <;> first | exact g _ (by kernel_rfl) | refine r _ _ _ ?_ | omega | (simp [maxLen, F12] <;> omega)
           refine WK [(2, Iz 14)] [] 2 (by simp [F12]) (by simp [F12]) ?_
           simp only [Option.some.injEq] at hF
           subst hF
           refine AW.ret (hQ _ _ _ ?_ (matchO_0 ?_)).1
           ·simp [Try.f41, F12]
           ·simp [F12]
          ·replace hF := ite_f h14 hF
           have h14_ := eqb_f h14
           have h14__ := neb_t h14
           by_cases h15 : v6.Level < 1
           ·replace hF := ite_t h15 hF
            have h15_ := h15
            try simp at h15_
            have F13 := And.intro F7 (And.intro h10 (And.intro h10_ (And.intro h11 (And.intro h11_ (And.intro h12 (And.intro h12_ (And.intro h13 (And.intro h13_ (And.intro h14 (And.intro h14_ (And.intro h14__ (And.intro h15 h15_))))))))))))
            try simp [F13]
            and_intros <;> first | exact g _ (by kernel_rfl) | refine r _ _ _ ?_ | omega | (simp [maxLen, F13] <;> omega)
            refine WK [(1, AV.ptr 0 0), (3, Iz v5), (4, AV.ptr 1 0), (77, AV.bool true)] [(0, .cells [Iz v0, AV.lst false false (List.map api_Edge.av v1), Lz v2]), (1, .cells [Iz v6.From, Iz v6.To, Iz v6.Level])] 2 (by simp [F13]) (by simp [F13]) ?_
            refine CT (by simp [F13]) ?_
            refine SQ [] [none] fun _ _ g r => ?_
            try simp [F13]
            and_intros <;> first | exact g _ (by kernel_rfl) | refine r _ _ _ ?_ | omega | (simp [maxLen, F13] <;> omega)
            refine WK [(2, Iz 14)] [] 2 (by simp [F13]) (by simp [F13]) ?_
            simp only [Option.some.injEq] at hF
            subst hF
            refine AW.ret (hQ _ _ _ ?_ (matchO_0 ?_)).1
            ·simp [Try.f41, F13]
            ·simp [F13]
           ·replace hF := ite_f h15 hF
            have h15_ := h15
            try simp at h15_
            have F14 := And.intro F7 (And.intro h10 (And.intro h10_ (And.intro h11 (And.intro h11_ (And.intro h12 (And.intro h12_ (And.intro h13 (And.intro h13_ (And.intro h14 (And.intro h14_ (And.intro h14__ (And.intro h15 h15_))))))))))))
            try simp [F14]
            and_intros <;> first | exact g _ (by kernel_rfl) | refine r _ _ _ ?_ | omega | (simp [maxLen, F14] <;> omega)
            refine WK [(1, AV.ptr 0 0), (3, Iz v5), (4, AV.ptr 1 0), (77, AV.bool (decide (3 < v6.Level)))] [(0, .cells [Iz v0, AV.lst false false (List.map api_Edge.av v1), Lz v2]), (1, .cells [Iz v6.From, Iz v6.To, Iz v6.Level])] 2 (by simp [F14]) (by simp [F14]) ?_
            by_cases h16 : 3 < v6.Level
            ·replace hF := ite_t h16 hF
             have h16_ := h16
             try simp at h16_
             have F15 := And.intro F14 (And.intro h16 h16_)
             refine CT (by simp [F15] <;> omega) ?_
             refine SQ [] [none] fun _ _ g r => ?_
             try simp [F15]
             and_intros <;> first | exact g _ (by kernel_rfl) | refine r _ _ _ ?_ | omega | (simp [maxLen, F15] <;> omega)
             refine WK [(2, Iz 14)] [] 2 (by simp [F15]) (by simp [F15]) ?_
             simp only [Option.some.injEq] at hF
             subst hF
             refine AW.ret (hQ _ _ _ ?_ (matchO_0 ?_)).1
             ·simp [Try.f41, F15]
             ·simp [F15]
            ·replace hF := ite_f h16 hF
             have h16_ := h16
             try simp at h16_
             have F16 := And.intro F14 (And.intro h16 h16_)
             refine CF (by simp [F16] <;> omega) ?_
             refine AW.skip ?_
             refine hK775 _ _ _ ?_
             refine AW.midF (α := Bool) (fun v7 => ref11_Check.J2 k v5 (fun v5_ => ref11_Check.L1 k v0 v1 v2 n1 v5_) v7 = some v3) (fun v7 => [(1, AV.ptr 0 0), (3, Iz v5), (104, AV.bool v7)]) (fun v7 => [(0, .cells [Iz v0, AV.lst false false (List.map api_Edge.av v1), Lz v2])]) 1 (fun K787 hK787 => ?_) ?_
             ·refine RG [] [none, none, none, some (80, true), some (80, true), some (80, true), some (80, true), some (80, true), some (80, true), some (80, true), some (80, true), some (80, true), none, none, some (91, false), some (91, false), some (91, false), some (91, false), some (91, false), none, none, some (98, false), some (98, false), some (98, false), some (98, false), some (98, false), none] fun _ _ g r => ?_
              by_cases h18 : 0 < v5
              ·replace hF := ite_t h18 hF
               have h18_ := h18
               try simp at h18_
               obtain ⟨v8, h19, h20, h21, hF⟩ := idx_elim hF
               have h21_ := get_of h21
               try simp at h21_
               have h20_ := h20
               try simp at h20_
               have F17 := And.intro F16 (And.intro h18 (And.intro h18_ (And.intro h19 (And.intro h20 (And.intro h21 (And.intro h21_ h20_))))))
               try simp [F17]
               and_intros
               try any_goals first | omega | (simp [maxLen, F17] <;> omega)
               obtain ⟨v9, h22, hF⟩ := bnd1_elim hF
               refine AC (w_ref11_before k _ _ _ _ _ _ _ h22) (.cons (.same (by simp [F17])) (.cons (.same (by simp [F17])) .nil)) ?_
               by_cases h23 : (!v9) = true
               ·replace hF := ite_t h23 hF
                have h23_ := h23
                try simp at h23_
                have F18 := And.intro F17 (And.intro h23 h23_)
                try simp [F18]
                and_intros <;> first | exact g _ (by kernel_rfl) | refine r _ _ _ ?_ | omega | (simp [maxLen, F18] <;> omega)
                refine hK787 _ _ _ ?_
                refine RN h0 [(0, 0)] [(1, AV.ptr 0 0), (3, Iz v5), (104, AV.bool true)] [(0, .cells [Iz v0, AV.lst false false (List.map api_Edge.av v1), Lz v2])] 1 (by simp [F18]) (by simp [F18]) ?_
                exact JN (true) hF (by simp [F18]) (by simp [F18])
               ·replace hF := ite_f h23 hF
                have h23_ := h23
                try simp at h23_
                have F19 := And.intro F17 (And.intro h23 h23_)
                try simp [F19]
                and_intros
                try any_goals first | omega | (simp [maxLen, F19] <;> omega)
                obtain ⟨v10, h24, hF⟩ := bnd1_elim hF
                refine AC (w_ref11_Has k _ _ _ h24) (.cons (.same (by simp [F19])) (.cons (.same (by simp [F19])) .nil)) ?_
                by_cases h25 : v10 = true
                ·replace hF := ite_t h25 hF
                 have h25_ := h25
                 try simp at h25_
                 have F20 := And.intro F19 (And.intro h25 h25_)
                 try simp [F20]
                 and_intros <;> first | exact g _ (by kernel_rfl) | refine r _ _ _ ?_ | omega | (simp [maxLen, F20] <;> omega)
                 refine hK787 _ _ _ ?_
                 refine RN h0 [(0, 0)] [(1, AV.ptr 0 0), (3, Iz v5), (104, AV.bool true)] [(0, .cells [Iz v0, AV.lst false false (List.map api_Edge.av v1), Lz v2])] 1 (by simp [F20]) (by simp [F20]) ?_
                 exact JN (true) hF (by simp [F20]) (by simp [F20])
                ·replace hF := ite_f h25 hF
                 have h25_ := h25
                 try simp at h25_
                 have F21 := And.intro F19 (And.intro h25 h25_)
                 try simp [F21]
                 and_intros
                 try any_goals first | omega | (simp [maxLen, F21] <;> omega)
                 obtain ⟨v11, h26, hF⟩ := bnd1_elim hF
                 refine AC (w_ref11_Has k _ _ _ h26) (.cons (.same (by simp [F21])) (.cons (.same (by simp [F21])) .nil)) ?_
                 try simp [F21]
                 and_intros <;> first | exact g _ (by kernel_rfl) | refine r _ _ _ ?_ | omega | (simp [maxLen, F21] <;> omega)
                 refine hK787 _ _ _ ?_
                 refine RN h0 [(0, 0)] [(1, AV.ptr 0 0), (3, Iz v5), (104, AV.bool v11)] [(0, .cells [Iz v0, AV.lst false false (List.map api_Edge.av v1), Lz v2])] 1 (by simp [F21]) (by simp [F21]) ?_
                 exact JN (v11) hF (by simp [F21]) (by simp [F21])
              ·replace hF := ite_f h18 hF
               have h18_ := h18
               try simp at h18_
               have F22 := And.intro F16 (And.intro h18 h18_)
               try simp [F22]
               and_intros
               try any_goals first | omega | (simp [maxLen, F22] <;> omega)
               obtain ⟨v12, h27, hF⟩ := bnd1_elim hF
               refine AC (w_ref11_Has k _ _ _ h27) (.cons (.same (by simp [F22])) (.cons (.same (by simp [F22])) .nil)) ?_
               by_cases h28 : v12 = true
               ·replace hF := ite_t h28 hF
                have h28_ := h28
                try simp at h28_
                have F23 := And.intro F22 (And.intro h28 h28_)
                try simp [F23]
                and_intros <;> first | exact g _ (by kernel_rfl) | refine r _ _ _ ?_ | omega | (simp [maxLen, F23] <;> omega)
                refine hK787 _ _ _ ?_
                refine RN h0 [(0, 0)] [(1, AV.ptr 0 0), (3, Iz v5), (104, AV.bool true)] [(0, .cells [Iz v0, AV.lst false false (List.map api_Edge.av v1), Lz v2])] 1 (by simp [F23]) (by simp [F23]) ?_
                exact JN (true) hF (by simp [F23]) (by simp [F23])
               ·replace hF := ite_f h28 hF
                have h28_ := h28
                try simp at h28_
                have F24 := And.intro F22 (And.intro h28 h28_)
                try simp [F24]
                and_intros
                try any_goals first | omega | (simp [maxLen, F24] <;> omega)
                obtain ⟨v13, h29, hF⟩ := bnd1_elim hF
                refine AC (w_ref11_Has k _ _ _ h29) (.cons (.same (by simp [F24])) (.cons (.same (by simp [F24])) .nil)) ?_
                try simp [F24]
                and_intros <;> first | exact g _ (by kernel_rfl) | refine r _ _ _ ?_ | omega | (simp [maxLen, F24] <;> omega)
                refine hK787 _ _ _ ?_
                refine RN h0 [(0, 0)] [(1, AV.ptr 0 0), (3, Iz v5), (104, AV.bool v13)] [(0, .cells [Iz v0, AV.lst false false (List.map api_Edge.av v1), Lz v2])] 1 (by simp [F24]) (by simp [F24]) ?_
                exact JN (v13) hF (by simp [F24]) (by simp [F24])
             ·rintro v7 hF
              try dsimp only at hF
              unfold ref11_Check.J2 at hF
              by_cases h17 : v7 = true
              ·replace hF := ite_t h17 hF
               have h17_ := h17
               try simp at h17_
               have F25 := And.intro F16 (And.intro h17 h17_)
               refine CT (by simp [F25] <;> omega) ?_
               refine SQ [] [none] fun _ _ g r => ?_
               try simp [F25]
               and_intros <;> first | exact g _ (by kernel_rfl) | refine r _ _ _ ?_ | omega | (simp [maxLen, F25] <;> omega)
               refine WK [(2, Iz 14)] [] 1 (by simp [F25]) (by simp [F25]) ?_
               simp only [Option.some.injEq] at hF
               subst hF
               refine AW.ret (hQ _ _ _ ?_ (matchO_0 ?_)).1
               ·simp [Try.f41, F25]
               ·simp [F25]
              ·replace hF := ite_f h17 hF
               have h17_ := h17
               try simp at h17_
               have F26 := And.intro F16 (And.intro h17 h17_)
               refine CF (by simp [F26] <;> omega) ?_
               refine AW.skip ?_
               refine hK765 _ _ _ ?_
               refine RG [] [none, none, none] fun _ _ g r => ?_
               try simp [F26]
               and_intros <;> first | exact g _ (by kernel_rfl) | refine r _ _ _ ?_ | omega | (simp [maxLen, F26] <;> omega)
               refine hK740 _ _ _ ?_
               exact NX (k' := n1) (IntKind.wrap .i64 (v5 + 1)) hF (by simp [F26]) (by simp [F26])
     ·replace hF := ite_f h6 hF
      have h6_ := h6
      try simp at h6_
      have F27 := And.intro F5 (And.intro h6 h6_)
      refine CF (by simp [F27] <;> omega) ?_
      refine AW.exit ?_
      try simp
      refine hK597 _ _ _ ?_
      refine SQ [] [none] fun _ _ g r => ?_
      try simp [F27]
      and_intros <;> first | exact g _ (by kernel_rfl) | refine r _ _ _ ?_ | omega | (simp [maxLen, F27] <;> omega)
      refine WK [(2, Iz 0)] [] 1 (by simp [F27]) (by simp [F27]) ?_
      simp only [Option.some.injEq] at hF
      subst hF
      refine AW.ret (hQ _ _ _ ?_ (matchO_0 ?_)).1
      ·simp [Try.f41, F27]
      ·simp [F27]
theorem w_ref11_index (k : Nat) (v0 : Int) (v1 : (List api_Edge)) (v2 : (List Int)) (v3 : Int) (v4 : Int) (v5 : Int) (v6 : Bool) (hF : ref11_index k v0 v1 v2 v3 v4 = some (v5, v6)) :
  FCall Try.prog 42 [AV.agg [AV.int .i64 v0, AV.lst false false (List.map api_Edge.av v1), AV.lst false false (List.map (AV.int .i64) v2)], AV.int .i64 v3, AV.int .i64 v4] [] (AV.tup [AV.int .i64 v5, AV.bool v6]) [] := by
 unfold ref11_index at hF
 refine EN Try.func42 ?_
 intro c0 w0 Q h0 hQ
 refine WK [(0, AV.agg [Iz v0, AV.lst false false (List.map api_Edge.av v1), Lz v2]), (1, Iz v3), (2, Iz v4)] [] 0 (by simp) (by simp) ?_
 refine SQ [] [none, none, none] fun _ _ g r => ?_
 try simp
 and_intros <;> first | exact g _ (by kernel_rfl) | refine r _ _ _ ?_ | omega | (simp [maxLen] <;> omega)
 refine WK [(1, Iz v3), (2, Iz v4), (3, AV.ptr 0 0)] [(0, .cells [Iz v0, AV.lst false false (List.map api_Edge.av v1), Lz v2])] 1 (by simp) (by simp) ?_
 refine SQ [] [none] fun _ _ g r => ?_
 try simp
 and_intros <;> first | exact g _ (by kernel_rfl) | refine r _ _ _ ?_ | omega | (simp [maxLen] <;> omega)
 refine WK [(1, Iz v3), (2, Iz v4), (3, AV.ptr 0 0), (8, Iz 0)] [(0, .cells [Iz v0, AV.lst false false (List.map api_Edge.av v1), Lz v2])] 1 (by simp) (by simp) ?_
 refine AW.midF (α := Int) (fun v7 => ref11_index.J1 k v1 v3 v4 v7 = some (v5, v6)) (fun v7 => [(1, Iz v3), (2, Iz v4), (3, AV.ptr 0 0), (8, Iz v7)]) (fun v7 => [(0, .cells [Iz v0, AV.lst false false (List.map api_Edge.av v1), Lz v2])]) 1 (fun K59 hK59 => ?_) ?_
 ·refine AW.block ?_
  refine AW.loopF (α := Int) (fun n v9 => ref11_index.L2 k v1 v3 v4 n v9 = some (v5, v6)) (fun v9 => [(1, Iz v3), (2, Iz v4), (3, AV.ptr 0 0), (8, Iz v9)]) (fun v9 => [(0, .cells [Iz v0, AV.lst false false (List.map api_Edge.av v1), Lz v2])]) 1 k (0) hF (by simp) (by simp) (by simp) ?_
  rintro (_|n2) v9 hF K72 hK72
  ·try dsimp only at hF
   rw [ref11_index.L2] at hF; cases hF
  try dsimp only at hF
  rw [ref11_index.L2] at hF
  refine AW.seq fun K74 hK74 => ?_
  refine SQ [] [none, none, none, none, none, none, some (14, true), some (14, true), some (14, true), some (14, true), some (14, true), some (14, true), some (14, true), some (14, true), some (14, true), none] fun _ _ g r => ?_
  by_cases h6 : v9 < (v1.length : Int)
  ·replace hF := ite_t h6 hF
   have h6_ := h6
   try simp at h6_
   obtain ⟨v10, h7, h8, h9, hF⟩ := idx_elim hF
   have h9_ := get_of h9
   try simp at h9_
   have h8_ := h8
   try simp at h8_
   have F1 := And.intro h6 (And.intro h6_ (And.intro h7 (And.intro h8 (And.intro h9 (And.intro h9_ h8_)))))
   try simp [F1]
   and_intros
   try any_goals first | omega | (simp [maxLen, F1] <;> omega)
   obtain ⟨v11, h10, hF⟩ := bnd1_elim hF
   refine AC (w_ref11_before k _ _ _ _ _ _ _ h10) (.cons (.same (by simp [F1])) (.cons (.same (by simp [F1])) .nil)) ?_
   try simp [F1]
   and_intros <;> first | exact g _ (by kernel_rfl) | refine r _ _ _ ?_ | omega | (simp [maxLen, F1] <;> omega)
   refine WK [(1, Iz v3), (2, Iz v4), (3, AV.ptr 0 0), (8, Iz v9), (24, AV.bool v11)] [(0, .cells [Iz v0, AV.lst false false (List.map api_Edge.av v1), Lz v2])] 1 (by simp [F1]) (by simp [F1]) ?_
   by_cases h11 : v11 = true
   ·replace hF := ite_t h11 hF
    have h11_ := h11
    try simp at h11_
    have F2 := And.intro F1 (And.intro h11 h11_)
    refine CT (by simp [F2] <;> omega) ?_
    refine AW.skip ?_
    refine hK74 _ _ _ ?_
    refine AW.block ?_
    refine RG [] [none, none, none] fun _ _ g r => ?_
    try simp [F2]
    and_intros <;> first | exact g _ (by kernel_rfl) | refine r _ _ _ ?_ | omega | (simp [maxLen, F2] <;> omega)
    refine hK72 _ _ _ ?_
    exact NX (k' := n2) (IntKind.wrap .i64 (v9 + 1)) hF (by simp [F2]) (by simp [F2])
   ·replace hF := ite_f h11 hF
    have h11_ := h11
    try simp at h11_
    have F3 := And.intro F1 (And.intro h11 h11_)
    refine CF (by simp [F3] <;> omega) ?_
    refine AW.exit ?_
    try simp
    refine hK59 _ _ _ ?_
    exact JN (v9) hF (by simp [F3]) (by simp [F3])
  ·replace hF := ite_f h6 hF
   have h6_ := h6
   try simp at h6_
   try simp [h6, h6_]
   and_intros <;> first | exact g _ (by kernel_rfl) | refine r _ _ _ ?_ | omega | (simp [h6, h6_, maxLen] <;> omega)
   refine WK [(1, Iz v3), (2, Iz v4), (3, AV.ptr 0 0), (8, Iz v9), (24, AV.bool false)] [(0, .cells [Iz v0, AV.lst false false (List.map api_Edge.av v1), Lz v2])] 1 (by simp [h6, h6_]) (by simp [h6, h6_]) ?_
   refine CF (by simp [h6, h6_]) ?_
   refine AW.exit ?_
   try simp
   refine hK59 _ _ _ ?_
   exact JN (v9) hF (by simp [h6, h6_]) (by simp [h6, h6_])
 ·rintro v7 hF
  try dsimp only at hF
  unfold ref11_index.J1 at hF
  refine SQ [] [none, none, none, none, none, none, none, some (33, true), some (33, true), some (33, true), some (33, true), some (33, true), some (33, true), some (33, true), some (33, true), none, none, some (43, true), some (43, true), some (43, true), some (43, true), some (43, true), some (43, true), some (43, true), some (43, true), none, none, none] fun _ _ g r => ?_
  by_cases h1 : v7 < (v1.length : Int)
  ·replace hF := ite_t h1 hF
   have h1_ := h1
   try simp at h1_
   obtain ⟨v8, h2, h3, h4, hF⟩ := idx_elim hF
   have h4_ := get_of h4
   try simp at h4_
   have h3_ := h3
   try simp at h3_
   by_cases h5 : v8.From = v3
   ·replace hF := ite_t h5 hF
    have h5q : v8.From = v3 := h5
    have h5_ := eqb_t h5q
    have h5__ := neb_f h5q
    have F4 := And.intro h1 (And.intro h1_ (And.intro h2 (And.intro h3 (And.intro h4 (And.intro h4_ (And.intro h3_ (And.intro h5_ h5__)))))))
    try simp [F4]
    and_intros <;> first | exact g _ (by kernel_rfl) | refine r _ _ _ ?_ | omega | (simp [maxLen, F4] <;> omega)
    refine WK [(6, Iz v7), (7, AV.bool (v8.To == v4))] [] 1 (by simp [F4]) (by simp [F4]) ?_
    simp only [Option.some.injEq, Prod.mk.injEq] at hF
    obtain ⟨e0, e1⟩ := hF
    subst e0 e1
    refine AW.ret (hQ _ _ _ ?_ (matchO_0 ?_)).1
    ·simp [Try.f42, F4]
    ·simp [F4]
   ·replace hF := ite_f h5 hF
    have h5_ := eqb_f h5
    have h5__ := neb_t h5
    have F5 := And.intro h1 (And.intro h1_ (And.intro h2 (And.intro h3 (And.intro h4 (And.intro h4_ (And.intro h3_ (And.intro h5 (And.intro h5_ h5__))))))))
    try simp [F5]
    and_intros <;> first | exact g _ (by kernel_rfl) | refine r _ _ _ ?_ | omega | (simp [maxLen, F5] <;> omega)
    refine WK [(6, Iz v7), (7, AV.bool false)] [] 1 (by simp [F5]) (by simp [F5]) ?_
    simp only [Option.some.injEq, Prod.mk.injEq] at hF
    obtain ⟨e0, e1⟩ := hF
    subst e0 e1
    refine AW.ret (hQ _ _ _ ?_ (matchO_0 ?_)).1
    ·simp [Try.f42, F5]
    ·simp [F5]
  ·replace hF := ite_f h1 hF
   have h1_ := h1
   try simp at h1_
   try simp [h1, h1_]
   and_intros <;> first | exact g _ (by kernel_rfl) | refine r _ _ _ ?_ | omega | (simp [h1, h1_, maxLen] <;> omega)
   refine WK [(6, Iz v7), (7, AV.bool false)] [] 1 (by simp [h1, h1_]) (by simp [h1, h1_]) ?_
   simp only [Option.some.injEq, Prod.mk.injEq] at hF
   obtain ⟨e0, e1⟩ := hF
   subst e0 e1
   refine AW.ret (hQ _ _ _ ?_ (matchO_0 ?_)).1
   ·simp [Try.f42, h1, h1_]
   ·simp [h1, h1_]
theorem w_ref11_Copy_o (k : Nat) (v0 : Int) (v1 : (List api_Edge)) (v2 : (List Int)) (v3 : Int) (v4 : (List api_Edge)) (v5 : (List Int)) (hF : ref11_Copy_o k v0 v1 v2 = some (v3, v4, v5)) :
  FCall Try.prog 23 [AV.agg [AV.int .i64 v0, AV.lst false false (List.map api_Edge.av v1), AV.lst false false (List.map (AV.int .i64) v2)]] [] (AV.agg [AV.int .i64 v3, AV.slc 0 0 3 v4.length false, AV.slc 1 0 1 v5.length false]) [some (.grow (flatA (List.map api_Edge.av v4))), some (.grow (List.map (AV.int .i64) v5))] := by
 unfold ref11_Copy_o at hF
 refine EN Try.func23 ?_
 intro c0 w0 Q h0 hQ
 refine WK [(0, AV.agg [Iz v0, AV.lst false false (List.map api_Edge.av v1), Lz v2])] [] 0 (by simp) (by simp) ?_
 refine SQ [] [none, none] fun _ _ g r => ?_
 try simp
 and_intros <;> first | exact g _ (by kernel_rfl) | refine r _ _ _ ?_ | omega | (simp [maxLen] <;> omega)
 refine WK [(1, AV.ptr 0 0), (2, AV.ptr 1 0)] [(0, .cells [Iz v0, AV.lst false false (List.map api_Edge.av v1), Lz v2]), (1, .cells [Iz 0, AV.lst true true (List.map api_Edge.av ([] : List api_Edge)), AV.lst true true (List.map (AV.int .i64) ([] : List Int))])] 2 (by simp) (by simp) ?_
 refine SQ [7, 10] [none, none, none, none, none, none, none, none, none, none] fun _ _ g r => ?_
 obtain ⟨h1, hF⟩ := chk_elim hF
 have h1_ := h1
 try simp at h1_
 obtain ⟨h2, hF⟩ := chk_elim hF
 have h2_ := h2
 try simp at h2_
 try simp [h1, h2]
 and_intros <;> first | exact g _ (by kernel_rfl) | refine r _ _ _ ?_ | omega | (simp [h1, h2, maxLen] <;> omega)
 refine RM h0 [(0, 2), (1, 3), (2, 1)] [(2, AV.ptr 2 0)] [(0, .grow (flatA (List.map api_Edge.av v1))), (1, .grow (List.map (AV.int .i64) v2)), (2, .cells [Iz v0, AV.slc 0 0 3 v1.length false, AV.slc 1 0 1 v2.length false])] 3 (by simp [h1, h2]) (by simp [h1, h2]) ?_
 simp only [Option.some.injEq, Prod.mk.injEq] at hF
 obtain ⟨e0, e1, e2⟩ := hF
 subst e0 e1 e2
 refine AW.ret (hQ _ _ _ ?_ (matchO_0 ?_)).1
 ·simp [Try.f23, h1, h2]
 ·simp [h1, h2]
abbrev c_ref11_With_o  : AObj := .cells [Iz 0, AV.lst true true (List.map api_Edge.av ([] : List api_Edge)), AV.lst true true (List.map (AV.int .i64) ([] : List Int))]
abbrev c_ref11_With_o1  : AObj := .cells [Iz 0, AV.slc 0 0 3 (([] : List api_Edge).length) false, AV.slc 1 0 1 (([] : List Int).length) false]
theorem w_ref11_With_o (k : Nat) (v0 : Int) (v1 : (List api_Edge)) (v2 : (List Int)) (v3 : Int) (v4 : Int) (v5 : Int) (v6 : Int) (v7 : (List api_Edge)) (v8 : (List Int)) (v9 : Int) (hF : ref11_With_o k v0 v1 v2 v3 v4 v5 = some (v6, v7, v8, v9)) :
  FCall Try.prog 20 [AV.agg [AV.int .i64 v0, AV.lst false false (List.map api_Edge.av v1), AV.lst false false (List.map (AV.int .i64) v2)], AV.agg [AV.int .i64 v3, AV.int .i64 v4, AV.int .i64 v5]] [] (AV.tup [AV.agg [AV.int .i64 v6, AV.slc 0 0 3 v7.length false, AV.slc 1 0 1 v8.length false], AV.int .i64 v9]) [some (.grow (flatA (List.map api_Edge.av v7))), some (.grow (List.map (AV.int .i64) v8))] := by
 unfold ref11_With_o at hF
 refine EN Try.func20 ?_
 intro c0 w0 Q h0 hQ
 refine WK [(0, AV.agg [Iz v0, AV.lst false false (List.map api_Edge.av v1), Lz v2]), (1, AV.agg [Iz v3, Iz v4, Iz v5])] [] 0 (by simp) (by simp) ?_
 refine SQ [] [none, none, none, none] fun _ _ g r => ?_
 try simp
 and_intros <;> first | exact g _ (by kernel_rfl) | refine r _ _ _ ?_ | omega | (simp [maxLen] <;> omega)
 refine WK [(2, AV.ptr 0 0), (3, AV.ptr 1 0), (4, AV.ptr 2 0)] [(0, .cells [Iz v0, AV.lst false false (List.map api_Edge.av v1), Lz v2]), (1, .cells [Iz v3, Iz v4, Iz v5]), (2, c_ref11_With_o )] 3 (by simp) (by simp) ?_
 refine AW.seq fun K45 hK45 => ?_
 refine SQ [] [none, none, none] fun _ _ g r => ?_
 try simp
 and_intros
 try any_goals first | omega | (simp [maxLen] <;> omega)
 obtain ⟨v10, h1, hF⟩ := bnd1_elim hF
 refine AC (w_ref11_Check k _ _ _ _ h1) (.cons (.same (by simp)) .nil) ?_
 try simp
 and_intros <;> first | exact g _ (by kernel_rfl) | refine r _ _ _ ?_ | omega | (simp [maxLen] <;> omega)
 refine WK [(2, AV.ptr 0 0), (3, AV.ptr 1 0), (4, AV.ptr 2 0), (11, AV.bool (v10 != 0))] [(0, .cells [Iz v0, AV.lst false false (List.map api_Edge.av v1), Lz v2]), (1, .cells [Iz v3, Iz v4, Iz v5]), (2, c_ref11_With_o )] 3 (by simp) (by simp) ?_
 by_cases h2 : v10 ≠ 0
 ·replace hF := ite_t h2 hF
  have h2_ := eqb_f h2
  have h2__ := neb_t h2
  have F1 := And.intro h2 (And.intro h2_ h2__)
  refine CT (by simp [F1] <;> omega) ?_
  refine SQ [] [none, none, none] fun _ _ g r => ?_
  try simp [F1]
  and_intros <;> first | exact g _ (by kernel_rfl) | refine r _ _ _ ?_ | omega | (simp [maxLen, F1] <;> omega)
  refine WK [(4, AV.ptr 2 0), (5, Iz 14)] [(2, c_ref11_With_o )] 3 (by simp [F1]) (by simp [F1]) ?_
  refine AW.ownC 2 1 3 true (cs := [Iz 0, AV.lst true true (List.map api_Edge.av ([] : List api_Edge)), AV.lst true true (List.map (AV.int .i64) ([] : List Int))]) (by simp [F1]) (by simp) ?_
  refine AW.ownC 2 2 1 true (cs := [Iz 0, AV.slc 3 0 3 (([] : List api_Edge).length) false, AV.lst true true (List.map (AV.int .i64) ([] : List Int))]) (by simp [F1]) (by simp) ?_
  refine RM h0 [(0, 3), (1, 4), (2, 2)] [(4, AV.ptr 2 0), (5, Iz 14)] [(0, .grow (flatA (List.map api_Edge.av ([] : List api_Edge)))), (1, .grow (List.map (AV.int .i64) ([] : List Int))), (2, c_ref11_With_o1 )] 3 (by simp [F1]) (by simp [F1]) ?_
  simp only [Option.some.injEq, Prod.mk.injEq] at hF
  obtain ⟨e0, e1, e2, e3⟩ := hF
  subst e0 e1 e2 e3
  refine AW.ret (hQ _ _ _ ?_ (matchO_0 ?_)).1
  ·simp [Try.f20, F1]
  ·simp [F1]
 ·replace hF := ite_f h2 hF
  have h2q : v10 = 0 := Classical.not_not.1 h2
  have h2_ := eqb_t h2q
  have h2__ := neb_f h2q
  have F2 := And.intro h2_ (And.intro h2__ h2q)
  refine CF (by simp [F2] <;> omega) ?_
  refine AW.skip ?_
  refine hK45 _ _ _ ?_
  refine SQ [] [none, none, none, none, none, none, none, none, none, none, none] fun _ _ g r => ?_
  try simp [F2]
  and_intros
  try any_goals first | omega | (simp [maxLen, F2] <;> omega)
  obtain ⟨v11, v12, h3, hF⟩ := bnd2_elim hF
  refine AC (w_ref11_index k _ _ _ _ _ _ _ h3) (.cons (.same (by simp [F2])) (.cons (.same (by simp [F2])) (.cons (.same (by simp [F2])) .nil))) ?_
  try simp [F2]
  and_intros <;> first | exact g _ (by kernel_rfl) | refine r _ _ _ ?_ | omega | (simp [maxLen, F2] <;> omega)
  refine WK [(2, AV.ptr 0 0), (3, AV.ptr 1 0), (4, AV.ptr 2 0), (6, Iz v11), (7, AV.bool v12)] [(0, .cells [Iz v0, AV.lst false false (List.map api_Edge.av v1), Lz v2]), (1, .cells [Iz v3, Iz v4, Iz v5]), (2, c_ref11_With_o )] 3 (by simp [F2]) (by simp [F2]) ?_
  refine AW.seq fun K64 hK64 => ?_
  refine AW.block ?_
  refine SQ [] [none, none, none, none, some (26, false), some (26, false), some (26, false), some (26, false), some (26, false), none, none, some (33, false), some (33, false), some (33, false), none, none, some (38, false), some (38, false), some (38, false), some (38, false), some (38, false), none, none, some (45, false), some (45, false), some (45, false), some (45, false), some (45, false), none, none, some (52, false), some (52, false), some (52, false), some (52, false), some (52, false), none, none, some (59, false), some (59, false), some (59, false), some (59, false), some (59, false), none, none] fun _ _ g r => ?_
  by_cases h4 : v3 < 0
  ·replace hF := ite_t h4 hF
   have h4_ := h4
   try simp at h4_
   have F3 := And.intro F2 (And.intro h4 h4_)
   try simp [F3]
   and_intros <;> first | exact g _ (by kernel_rfl) | refine r _ _ _ ?_ | omega | (simp [maxLen, F3] <;> omega)
   refine WK [(2, AV.ptr 0 0), (3, AV.ptr 1 0), (4, AV.ptr 2 0), (6, Iz v11), (7, AV.bool v12), (22, AV.bool true)] [(0, .cells [Iz v0, AV.lst false false (List.map api_Edge.av v1), Lz v2]), (1, .cells [Iz v3, Iz v4, Iz v5]), (2, c_ref11_With_o )] 3 (by simp [F3]) (by simp [F3]) ?_
   refine CT (by simp [F3]) ?_
   refine SQ [] [none, none, none] fun _ _ g r => ?_
   try simp [F3]
   and_intros <;> first | exact g _ (by kernel_rfl) | refine r _ _ _ ?_ | omega | (simp [maxLen, F3] <;> omega)
   refine WK [(4, AV.ptr 2 0), (5, Iz 4)] [(2, c_ref11_With_o )] 3 (by simp [F3]) (by simp [F3]) ?_
   refine AW.ownC 2 1 3 true (cs := [Iz 0, AV.lst true true (List.map api_Edge.av ([] : List api_Edge)), AV.lst true true (List.map (AV.int .i64) ([] : List Int))]) (by simp [F3]) (by simp) ?_
   refine AW.ownC 2 2 1 true (cs := [Iz 0, AV.slc 3 0 3 (([] : List api_Edge).length) false, AV.lst true true (List.map (AV.int .i64) ([] : List Int))]) (by simp [F3]) (by simp) ?_
   refine RM h0 [(0, 3), (1, 4), (2, 2)] [(4, AV.ptr 2 0), (5, Iz 4)] [(0, .grow (flatA (List.map api_Edge.av ([] : List api_Edge)))), (1, .grow (List.map (AV.int .i64) ([] : List Int))), (2, c_ref11_With_o1 )] 3 (by simp [F3]) (by simp [F3]) ?_
   simp only [Option.some.injEq, Prod.mk.injEq] at hF
   obtain ⟨e0, e1, e2, e3⟩ := hF
   subst e0 e1 e2 e3
   refine AW.ret (hQ _ _ _ ?_ (matchO_0 ?_)).1
   ·simp [Try.f20, F3]
   ·simp [F3]
  ·replace hF := ite_f h4 hF
   have h4_ := h4
   try simp at h4_
   by_cases h5 : v0 ≤ v3
   ·replace hF := ite_t h5 hF
    have h5_ := h5
    try simp at h5_
    have F4 := And.intro F2 (And.intro h4 (And.intro h4_ (And.intro h5 h5_)))
    try simp [F4]
    and_intros <;> first | exact g _ (by kernel_rfl) | refine r _ _ _ ?_ | omega | (simp [maxLen, F4] <;> omega)
    refine WK [(2, AV.ptr 0 0), (3, AV.ptr 1 0), (4, AV.ptr 2 0), (6, Iz v11), (7, AV.bool v12), (22, AV.bool true)] [(0, .cells [Iz v0, AV.lst false false (List.map api_Edge.av v1), Lz v2]), (1, .cells [Iz v3, Iz v4, Iz v5]), (2, c_ref11_With_o )] 3 (by simp [F4]) (by simp [F4]) ?_
    refine CT (by simp [F4]) ?_
    refine SQ [] [none, none, none] fun _ _ g r => ?_
    try simp [F4]
    and_intros <;> first | exact g _ (by kernel_rfl) | refine r _ _ _ ?_ | omega | (simp [maxLen, F4] <;> omega)
    refine WK [(4, AV.ptr 2 0), (5, Iz 4)] [(2, c_ref11_With_o )] 3 (by simp [F4]) (by simp [F4]) ?_
    refine AW.ownC 2 1 3 true (cs := [Iz 0, AV.lst true true (List.map api_Edge.av ([] : List api_Edge)), AV.lst true true (List.map (AV.int .i64) ([] : List Int))]) (by simp [F4]) (by simp) ?_
    refine AW.ownC 2 2 1 true (cs := [Iz 0, AV.slc 3 0 3 (([] : List api_Edge).length) false, AV.lst true true (List.map (AV.int .i64) ([] : List Int))]) (by simp [F4]) (by simp) ?_
    refine RM h0 [(0, 3), (1, 4), (2, 2)] [(4, AV.ptr 2 0), (5, Iz 4)] [(0, .grow (flatA (List.map api_Edge.av ([] : List api_Edge)))), (1, .grow (List.map (AV.int .i64) ([] : List Int))), (2, c_ref11_With_o1 )] 3 (by simp [F4]) (by simp [F4]) ?_
    simp only [Option.some.injEq, Prod.mk.injEq] at hF
    obtain ⟨e0, e1, e2, e3⟩ := hF
    subst e0 e1 e2 e3
    refine AW.ret (hQ _ _ _ ?_ (matchO_0 ?_)).1
    ·simp [Try.f20, F4]
    ·simp [F4]
   ·replace hF := ite_f h5 hF
    have h5_ := h5
    try simp at h5_
    by_cases h6 : v4 < 0
    ·replace hF := ite_t h6 hF
     have h6_ := h6
     try simp at h6_
     have F5 := And.intro F2 (And.intro h4 (And.intro h4_ (And.intro h5 (And.intro h5_ (And.intro h6 h6_)))))
     try simp [F5]
     and_intros <;> first | exact g _ (by kernel_rfl) | refine r _ _ _ ?_ | omega | (simp [maxLen, F5] <;> omega)
     refine WK [(2, AV.ptr 0 0), (3, AV.ptr 1 0), (4, AV.ptr 2 0), (6, Iz v11), (7, AV.bool v12), (22, AV.bool true)] [(0, .cells [Iz v0, AV.lst false false (List.map api_Edge.av v1), Lz v2]), (1, .cells [Iz v3, Iz v4, Iz v5]), (2, c_ref11_With_o )] 3 (by simp [F5]) (by simp [F5]) ?_
     refine CT (by simp [F5]) ?_
     refine SQ [] [none, none, none] fun _ _ g r => ?_
     try simp [F5]
     and_intros <;> first | exact g _ (by kernel_rfl) | refine r _ _ _ ?_ | omega | (simp [maxLen, F5] <;> omega)
     refine WK [(4, AV.ptr 2 0), (5, Iz 4)] [(2, c_ref11_With_o )] 3 (by simp [F5]) (by simp [F5]) ?_
     refine AW.ownC 2 1 3 true (cs := [Iz 0, AV.lst true true (List.map api_Edge.av ([] : List api_Edge)), AV.lst true true (List.map (AV.int .i64) ([] : List Int))]) (by simp [F5]) (by simp) ?_
     refine AW.ownC 2 2 1 true (cs := [Iz 0, AV.slc 3 0 3 (([] : List api_Edge).length) false, AV.lst true true (List.map (AV.int .i64) ([] : List Int))]) (by simp [F5]) (by simp) ?_
     refine RM h0 [(0, 3), (1, 4), (2, 2)] [(4, AV.ptr 2 0), (5, Iz 4)] [(0, .grow (flatA (List.map api_Edge.av ([] : List api_Edge)))), (1, .grow (List.map (AV.int .i64) ([] : List Int))), (2, c_ref11_With_o1 )] 3 (by simp [F5]) (by simp [F5]) ?_
     simp only [Option.some.injEq, Prod.mk.injEq] at hF
     obtain ⟨e0, e1, e2, e3⟩ := hF
     subst e0 e1 e2 e3
     refine AW.ret (hQ _ _ _ ?_ (matchO_0 ?_)).1
     ·simp [Try.f20, F5]
     ·simp [F5]
    ·replace hF := ite_f h6 hF
     have h6_ := h6
     try simp at h6_
     by_cases h7 : v0 ≤ v4
     ·replace hF := ite_t h7 hF
      have h7_ := h7
      try simp at h7_
      have F6 := And.intro F2 (And.intro h4 (And.intro h4_ (And.intro h5 (And.intro h5_ (And.intro h6 (And.intro h6_ (And.intro h7 h7_)))))))
      try simp [F6]
      and_intros <;> first | exact g _ (by kernel_rfl) | refine r _ _ _ ?_ | omega | (simp [maxLen, F6] <;> omega)
      refine WK [(2, AV.ptr 0 0), (3, AV.ptr 1 0), (4, AV.ptr 2 0), (6, Iz v11), (7, AV.bool v12), (22, AV.bool true)] [(0, .cells [Iz v0, AV.lst false false (List.map api_Edge.av v1), Lz v2]), (1, .cells [Iz v3, Iz v4, Iz v5]), (2, c_ref11_With_o )] 3 (by simp [F6]) (by simp [F6]) ?_
      refine CT (by simp [F6]) ?_
      refine SQ [] [none, none, none] fun _ _ g r => ?_
      try simp [F6]
      and_intros <;> first | exact g _ (by kernel_rfl) | refine r _ _ _ ?_ | omega | (simp [maxLen, F6] <;> omega)
      refine WK [(4, AV.ptr 2 0), (5, Iz 4)] [(2, c_ref11_With_o )] 3 (by simp [F6]) (by simp [F6]) ?_
      refine AW.ownC 2 1 3 true (cs := [Iz 0, AV.lst true true (List.map api_Edge.av ([] : List api_Edge)), AV.lst true true (List.map (AV.int .i64) ([] : List Int))]) (by simp [F6]) (by simp) ?_
      refine AW.ownC 2 2 1 true (cs := [Iz 0, AV.slc 3 0 3 (([] : List api_Edge).length) false, AV.lst true true (List.map (AV.int .i64) ([] : List Int))]) (by simp [F6]) (by simp) ?_
      refine RM h0 [(0, 3), (1, 4), (2, 2)] [(4, AV.ptr 2 0), (5, Iz 4)] [(0, .grow (flatA (List.map api_Edge.av ([] : List api_Edge)))), (1, .grow (List.map (AV.int .i64) ([] : List Int))), (2, c_ref11_With_o1 )] 3 (by simp [F6]) (by simp [F6]) ?_
      simp only [Option.some.injEq, Prod.mk.injEq] at hF
      obtain ⟨e0, e1, e2, e3⟩ := hF
      subst e0 e1 e2 e3
      refine AW.ret (hQ _ _ _ ?_ (matchO_0 ?_)).1
      ·simp [Try.f20, F6]
      ·simp [F6]
     ·replace hF := ite_f h7 hF
      have h7_ := h7
      try simp at h7_
      by_cases h8 : v3 = v4
      ·replace hF := ite_t h8 hF
       have h8q : v3 = v4 := h8
       have h8_ := eqb_t h8q
       have h8__ := neb_f h8q
       have F7 := And.intro F2 (And.intro h4 (And.intro h4_ (And.intro h5 (And.intro h5_ (And.intro h6 (And.intro h6_ (And.intro h7 (And.intro h7_ (And.intro h8_ h8__)))))))))
       try simp [F7]
       and_intros <;> first | exact g _ (by kernel_rfl) | refine r _ _ _ ?_ | omega | (simp [maxLen, F7] <;> omega)
       refine WK [(2, AV.ptr 0 0), (3, AV.ptr 1 0), (4, AV.ptr 2 0), (6, Iz v11), (7, AV.bool v12), (22, AV.bool true)] [(0, .cells [Iz v0, AV.lst false false (List.map api_Edge.av v1), Lz v2]), (1, .cells [Iz v3, Iz v4, Iz v5]), (2, c_ref11_With_o )] 3 (by simp [F7]) (by simp [F7]) ?_
       refine CT (by simp [F7]) ?_
       refine SQ [] [none, none, none] fun _ _ g r => ?_
       try simp [F7]
       and_intros <;> first | exact g _ (by kernel_rfl) | refine r _ _ _ ?_ | omega | (simp [maxLen, F7] <;> omega)
       refine WK [(4, AV.ptr 2 0), (5, Iz 4)] [(2, c_ref11_With_o )] 3 (by simp [F7]) (by simp [F7]) ?_
       refine AW.ownC 2 1 3 true (cs := [Iz 0, AV.lst true true (List.map api_Edge.av ([] : List api_Edge)), AV.lst true true (List.map (AV.int .i64) ([] : List Int))]) (by simp [F7]) (by simp) ?_
       refine AW.ownC 2 2 1 true (cs := [Iz 0, AV.slc 3 0 3 (([] : List api_Edge).length) false, AV.lst true true (List.map (AV.int .i64) ([] : List Int))]) (by simp [F7]) (by simp) ?_
       refine RM h0 [(0, 3), (1, 4), (2, 2)] [(4, AV.ptr 2 0), (5, Iz 4)] [(0, .grow (flatA (List.map api_Edge.av ([] : List api_Edge)))), (1, .grow (List.map (AV.int .i64) ([] : List Int))), (2, c_ref11_With_o1 )] 3 (by simp [F7]) (by simp [F7]) ?_
       simp only [Option.some.injEq, Prod.mk.injEq] at hF
       obtain ⟨e0, e1, e2, e3⟩ := hF
       subst e0 e1 e2 e3
       refine AW.ret (hQ _ _ _ ?_ (matchO_0 ?_)).1
       ·simp [Try.f20, F7]
       ·simp [F7]
      ·replace hF := ite_f h8 hF
       have h8_ := eqb_f h8
       have h8__ := neb_t h8
       have F8 := And.intro F2 (And.intro h4 (And.intro h4_ (And.intro h5 (And.intro h5_ (And.intro h6 (And.intro h6_ (And.intro h7 (And.intro h7_ (And.intro h8 (And.intro h8_ h8__))))))))))
       try simp [F8]
       and_intros
       try any_goals first | omega | (simp [maxLen, F8] <;> omega)
       obtain ⟨v13, h9, hF⟩ := bnd1_elim hF
       refine AC (w_ref11_Has k _ _ _ h9) (.cons (.same (by simp [F8])) (.cons (.same (by simp [F8])) .nil)) ?_
       by_cases h10 : v13 = true
       ·replace hF := ite_t h10 hF
        have h10_ := h10
        try simp at h10_
        have F9 := And.intro F8 (And.intro h10 h10_)
        try simp [F9]
        and_intros <;> first | exact g _ (by kernel_rfl) | refine r _ _ _ ?_ | omega | (simp [maxLen, F9] <;> omega)
        refine WK [(2, AV.ptr 0 0), (3, AV.ptr 1 0), (4, AV.ptr 2 0), (6, Iz v11), (7, AV.bool v12), (22, AV.bool true)] [(0, .cells [Iz v0, AV.lst false false (List.map api_Edge.av v1), Lz v2]), (1, .cells [Iz v3, Iz v4, Iz v5]), (2, c_ref11_With_o )] 3 (by simp [F9]) (by simp [F9]) ?_
        refine CT (by simp [F9]) ?_
        refine SQ [] [none, none, none] fun _ _ g r => ?_
        try simp [F9]
        and_intros <;> first | exact g _ (by kernel_rfl) | refine r _ _ _ ?_ | omega | (simp [maxLen, F9] <;> omega)
        refine WK [(4, AV.ptr 2 0), (5, Iz 4)] [(2, c_ref11_With_o )] 3 (by simp [F9]) (by simp [F9]) ?_
        refine AW.ownC 2 1 3 true (cs := [Iz 0, AV.lst true true (List.map api_Edge.av ([] : List api_Edge)), AV.lst true true (List.map (AV.int .i64) ([] : List Int))]) (by simp [F9]) (by simp) ?_
        refine AW.ownC 2 2 1 true (cs := [Iz 0, AV.slc 3 0 3 (([] : List api_Edge).length) false, AV.lst true true (List.map (AV.int .i64) ([] : List Int))]) (by simp [F9]) (by simp) ?_
        refine RM h0 [(0, 3), (1, 4), (2, 2)] [(4, AV.ptr 2 0), (5, Iz 4)] [(0, .grow (flatA (List.map api_Edge.av ([] : List api_Edge)))), (1, .grow (List.map (AV.int .i64) ([] : List Int))), (2, c_ref11_With_o1 )] 3 (by simp [F9]) (by simp [F9]) ?_
        simp only [Option.some.injEq, Prod.mk.injEq] at hF
        obtain ⟨e0, e1, e2, e3⟩ := hF
        subst e0 e1 e2 e3
        refine AW.ret (hQ _ _ _ ?_ (matchO_0 ?_)).1
        ·simp [Try.f20, F9]
        ·simp [F9]
       ·replace hF := ite_f h10 hF
        have h10_ := h10
        try simp at h10_
        have F10 := And.intro F8 (And.intro h10 h10_)
        try simp [F10]
        and_intros
        try any_goals first | omega | (simp [maxLen, F10] <;> omega)
        obtain ⟨v14, h11, hF⟩ := bnd1_elim hF
        refine AC (w_ref11_Has k _ _ _ h11) (.cons (.same (by simp [F10])) (.cons (.same (by simp [F10])) .nil)) ?_
        try simp [F10]
        and_intros <;> first | exact g _ (by kernel_rfl) | refine r _ _ _ ?_ | omega | (simp [maxLen, F10] <;> omega)
        refine WK [(2, AV.ptr 0 0), (3, AV.ptr 1 0), (4, AV.ptr 2 0), (6, Iz v11), (7, AV.bool v12), (22, AV.bool v14)] [(0, .cells [Iz v0, AV.lst false false (List.map api_Edge.av v1), Lz v2]), (1, .cells [Iz v3, Iz v4, Iz v5]), (2, c_ref11_With_o )] 3 (by simp [F10]) (by simp [F10]) ?_
        by_cases h12 : v14 = true
        ·replace hF := ite_t h12 hF
         have h12_ := h12
         try simp at h12_
         have F11 := And.intro F10 (And.intro h12 h12_)
         refine CT (by simp [F11] <;> omega) ?_
         refine SQ [] [none, none, none] fun _ _ g r => ?_
         try simp [F11]
         and_intros <;> first | exact g _ (by kernel_rfl) | refine r _ _ _ ?_ | omega | (simp [maxLen, F11] <;> omega)
         refine WK [(4, AV.ptr 2 0), (5, Iz 4)] [(2, c_ref11_With_o )] 3 (by simp [F11]) (by simp [F11]) ?_
         refine AW.ownC 2 1 3 true (cs := [Iz 0, AV.lst true true (List.map api_Edge.av ([] : List api_Edge)), AV.lst true true (List.map (AV.int .i64) ([] : List Int))]) (by simp [F11]) (by simp) ?_
         refine AW.ownC 2 2 1 true (cs := [Iz 0, AV.slc 3 0 3 (([] : List api_Edge).length) false, AV.lst true true (List.map (AV.int .i64) ([] : List Int))]) (by simp [F11]) (by simp) ?_
         refine RM h0 [(0, 3), (1, 4), (2, 2)] [(4, AV.ptr 2 0), (5, Iz 4)] [(0, .grow (flatA (List.map api_Edge.av ([] : List api_Edge)))), (1, .grow (List.map (AV.int .i64) ([] : List Int))), (2, c_ref11_With_o1 )] 3 (by simp [F11]) (by simp [F11]) ?_
         simp only [Option.some.injEq, Prod.mk.injEq] at hF
         obtain ⟨e0, e1, e2, e3⟩ := hF
         subst e0 e1 e2 e3
         refine AW.ret (hQ _ _ _ ?_ (matchO_0 ?_)).1
         ·simp [Try.f20, F11]
         ·simp [F11]
        ·replace hF := ite_f h12 hF
         have h12_ := h12
         try simp at h12_
         have F12 := And.intro F10 (And.intro h12 h12_)
         refine CF (by simp [F12] <;> omega) ?_
         refine SQ [] [none, none, none, none, some (71, false), some (71, false), some (71, false), none, none] fun _ _ g r => ?_
         by_cases h13 : v5 < 1
         ·replace hF := ite_t h13 hF
          have h13_ := h13
          try simp at h13_
          have F13 := And.intro F12 (And.intro h13 h13_)
          try simp [F13]
          and_intros <;> first | exact g _ (by kernel_rfl) | refine r _ _ _ ?_ | omega | (simp [maxLen, F13] <;> omega)
          refine WK [(2, AV.ptr 0 0), (3, AV.ptr 1 0), (4, AV.ptr 2 0), (6, Iz v11), (7, AV.bool v12), (67, AV.bool true)] [(0, .cells [Iz v0, AV.lst false false (List.map api_Edge.av v1), Lz v2]), (1, .cells [Iz v3, Iz v4, Iz v5]), (2, c_ref11_With_o )] 3 (by simp [F13]) (by simp [F13]) ?_
          refine CT (by simp [F13]) ?_
          refine SQ [] [none, none, none] fun _ _ g r => ?_
          try simp [F13]
          and_intros <;> first | exact g _ (by kernel_rfl) | refine r _ _ _ ?_ | omega | (simp [maxLen, F13] <;> omega)
          refine WK [(4, AV.ptr 2 0), (5, Iz 2)] [(2, c_ref11_With_o )] 3 (by simp [F13]) (by simp [F13]) ?_
          refine AW.ownC 2 1 3 true (cs := [Iz 0, AV.lst true true (List.map api_Edge.av ([] : List api_Edge)), AV.lst true true (List.map (AV.int .i64) ([] : List Int))]) (by simp [F13]) (by simp) ?_
          refine AW.ownC 2 2 1 true (cs := [Iz 0, AV.slc 3 0 3 (([] : List api_Edge).length) false, AV.lst true true (List.map (AV.int .i64) ([] : List Int))]) (by simp [F13]) (by simp) ?_
          refine RM h0 [(0, 3), (1, 4), (2, 2)] [(4, AV.ptr 2 0), (5, Iz 2)] [(0, .grow (flatA (List.map api_Edge.av ([] : List api_Edge)))), (1, .grow (List.map (AV.int .i64) ([] : List Int))), (2, c_ref11_With_o1 )] 3 (by simp [F13]) (by simp [F13]) ?_
          simp only [Option.some.injEq, Prod.mk.injEq] at hF
          obtain ⟨e0, e1, e2, e3⟩ := hF
          subst e0 e1 e2 e3
          refine AW.ret (hQ _ _ _ ?_ (matchO_0 ?_)).1
          ·simp [Try.f20, F13]
          ·simp [F13]
         ·replace hF := ite_f h13 hF
          have h13_ := h13
          try simp at h13_
          have F14 := And.intro F12 (And.intro h13 h13_)
          try simp [F14]
          and_intros <;> first | exact g _ (by kernel_rfl) | refine r _ _ _ ?_ | omega | (simp [maxLen, F14] <;> omega)
          refine WK [(2, AV.ptr 0 0), (3, AV.ptr 1 0), (4, AV.ptr 2 0), (6, Iz v11), (7, AV.bool v12), (67, AV.bool (decide (3 < v5)))] [(0, .cells [Iz v0, AV.lst false false (List.map api_Edge.av v1), Lz v2]), (1, .cells [Iz v3, Iz v4, Iz v5]), (2, c_ref11_With_o )] 3 (by simp [F14]) (by simp [F14]) ?_
          by_cases h14 : 3 < v5
          ·replace hF := ite_t h14 hF
           have h14_ := h14
           try simp at h14_
           have F15 := And.intro F14 (And.intro h14 h14_)
           refine CT (by simp [F15] <;> omega) ?_
           refine SQ [] [none, none, none] fun _ _ g r => ?_
           try simp [F15]
           and_intros <;> first | exact g _ (by kernel_rfl) | refine r _ _ _ ?_ | omega | (simp [maxLen, F15] <;> omega)
           refine WK [(4, AV.ptr 2 0), (5, Iz 2)] [(2, c_ref11_With_o )] 3 (by simp [F15]) (by simp [F15]) ?_
           refine AW.ownC 2 1 3 true (cs := [Iz 0, AV.lst true true (List.map api_Edge.av ([] : List api_Edge)), AV.lst true true (List.map (AV.int .i64) ([] : List Int))]) (by simp [F15]) (by simp) ?_
           refine AW.ownC 2 2 1 true (cs := [Iz 0, AV.slc 3 0 3 (([] : List api_Edge).length) false, AV.lst true true (List.map (AV.int .i64) ([] : List Int))]) (by simp [F15]) (by simp) ?_
           refine RM h0 [(0, 3), (1, 4), (2, 2)] [(4, AV.ptr 2 0), (5, Iz 2)] [(0, .grow (flatA (List.map api_Edge.av ([] : List api_Edge)))), (1, .grow (List.map (AV.int .i64) ([] : List Int))), (2, c_ref11_With_o1 )] 3 (by simp [F15]) (by simp [F15]) ?_
           simp only [Option.some.injEq, Prod.mk.injEq] at hF
           obtain ⟨e0, e1, e2, e3⟩ := hF
           subst e0 e1 e2 e3
           refine AW.ret (hQ _ _ _ ?_ (matchO_0 ?_)).1
           ·simp [Try.f20, F15]
           ·simp [F15]
          ·replace hF := ite_f h14 hF
           have h14_ := h14
           try simp at h14_
           have F16 := And.intro F14 (And.intro h14 h14_)
           refine CF (by simp [F16] <;> omega) ?_
           refine SQ [] [none, none] fun _ _ g r => ?_
           try simp [F16]
           and_intros <;> first | exact g _ (by kernel_rfl) | refine r _ _ _ ?_ | omega | (simp [maxLen, F16] <;> omega)
           refine WK [(2, AV.ptr 0 0), (3, AV.ptr 1 0), (4, AV.ptr 2 0), (6, Iz v11), (77, AV.bool v12)] [(0, .cells [Iz v0, AV.lst false false (List.map api_Edge.av v1), Lz v2]), (1, .cells [Iz v3, Iz v4, Iz v5]), (2, c_ref11_With_o )] 3 (by simp [F16]) (by simp [F16]) ?_
           by_cases h15 : v12 = true
           ·replace hF := ite_t h15 hF
            have h15_ := h15
            try simp at h15_
            have F17 := And.intro F16 (And.intro h15 h15_)
            refine CT (by simp [F17] <;> omega) ?_
            refine SQ [] [none, none, none] fun _ _ g r => ?_
            try simp [F17]
            and_intros <;> first | exact g _ (by kernel_rfl) | refine r _ _ _ ?_ | omega | (simp [maxLen, F17] <;> omega)
            refine WK [(4, AV.ptr 2 0), (5, Iz 19)] [(2, c_ref11_With_o )] 3 (by simp [F17]) (by simp [F17]) ?_
            refine AW.ownC 2 1 3 true (cs := [Iz 0, AV.lst true true (List.map api_Edge.av ([] : List api_Edge)), AV.lst true true (List.map (AV.int .i64) ([] : List Int))]) (by simp [F17]) (by simp) ?_
            refine AW.ownC 2 2 1 true (cs := [Iz 0, AV.slc 3 0 3 (([] : List api_Edge).length) false, AV.lst true true (List.map (AV.int .i64) ([] : List Int))]) (by simp [F17]) (by simp) ?_
            refine RM h0 [(0, 3), (1, 4), (2, 2)] [(4, AV.ptr 2 0), (5, Iz 19)] [(0, .grow (flatA (List.map api_Edge.av ([] : List api_Edge)))), (1, .grow (List.map (AV.int .i64) ([] : List Int))), (2, c_ref11_With_o1 )] 3 (by simp [F17]) (by simp [F17]) ?_
            simp only [Option.some.injEq, Prod.mk.injEq] at hF
            obtain ⟨e0, e1, e2, e3⟩ := hF
            subst e0 e1 e2 e3
            refine AW.ret (hQ _ _ _ ?_ (matchO_0 ?_)).1
            ·simp [Try.f20, F17]
            ·simp [F17]
           ·replace hF := ite_f h15 hF
            have h15_ := h15
            try simp at h15_
            have F18 := And.intro F16 (And.intro h15 h15_)
            refine CF (by simp [F18] <;> omega) ?_
            refine SQ [] [none, none, none, none, none] fun _ _ g r => ?_
            try simp [F18]
            and_intros <;> first | exact g _ (by kernel_rfl) | refine r _ _ _ ?_ | omega | (simp [maxLen, F18] <;> omega)
            refine WK [(2, AV.ptr 0 0), (3, AV.ptr 1 0), (4, AV.ptr 2 0), (6, Iz v11), (80, AV.bool ((v1.length : Int) == 500))] [(0, .cells [Iz v0, AV.lst false false (List.map api_Edge.av v1), Lz v2]), (1, .cells [Iz v3, Iz v4, Iz v5]), (2, c_ref11_With_o )] 3 (by simp [F18]) (by simp [F18]) ?_
            by_cases h16 : (v1.length : Int) = 500
            ·replace hF := ite_t h16 hF
             have h16q : (v1.length : Int) = 500 := h16
             have h16_ := eqb_t h16q
             have h16__ := neb_f h16q
             have F19 := And.intro F18 (And.intro h16_ (And.intro h16__ h16q))
             refine CT (by simp [F19] <;> omega) ?_
             refine SQ [] [none, none, none] fun _ _ g r => ?_
             try simp [F19]
             and_intros <;> first | exact g _ (by kernel_rfl) | refine r _ _ _ ?_ | omega | (simp [maxLen, F19] <;> omega)
             refine WK [(4, AV.ptr 2 0), (5, Iz 3)] [(2, c_ref11_With_o )] 3 (by simp [F19]) (by simp [F19]) ?_
             refine AW.ownC 2 1 3 true (cs := [Iz 0, AV.lst true true (List.map api_Edge.av ([] : List api_Edge)), AV.lst true true (List.map (AV.int .i64) ([] : List Int))]) (by simp [F19]) (by simp) ?_
             refine AW.ownC 2 2 1 true (cs := [Iz 0, AV.slc 3 0 3 (([] : List api_Edge).length) false, AV.lst true true (List.map (AV.int .i64) ([] : List Int))]) (by simp [F19]) (by simp) ?_
             refine RM h0 [(0, 3), (1, 4), (2, 2)] [(4, AV.ptr 2 0), (5, Iz 3)] [(0, .grow (flatA (List.map api_Edge.av ([] : List api_Edge)))), (1, .grow (List.map (AV.int .i64) ([] : List Int))), (2, c_ref11_With_o1 )] 3 (by simp [F19]) (by simp [F19]) ?_
             simp only [Option.some.injEq, Prod.mk.injEq] at hF
             obtain ⟨e0, e1, e2, e3⟩ := hF
             subst e0 e1 e2 e3
             refine AW.ret (hQ _ _ _ ?_ (matchO_0 ?_)).1
             ·simp [Try.f20, F19]
             ·simp [F19]
            ·replace hF := ite_f h16 hF
             have h16_ := eqb_f h16
             have h16__ := neb_t h16
             have F20 := And.intro F18 (And.intro h16 (And.intro h16_ h16__))
             refine CF (by simp [F20] <;> omega) ?_
             refine AW.skip ?_
             refine hK64 _ _ _ ?_
             refine SQ [] [none, none, none, none] fun _ _ g r => ?_
             try simp [F20]
             and_intros
             try any_goals first | omega | (simp [maxLen, F20] <;> omega)
             obtain ⟨v15, v16, v17, h17, hF⟩ := bnd3_elim hF
             refine AC (w_ref11_Copy_o k _ _ _ _ _ _ h17) (.cons (.same (by simp [F20])) .nil) ?_
             try simp [F20]
             and_intros <;> first | exact g _ (by kernel_rfl) | refine r _ _ _ ?_ | omega | (simp [maxLen, F20] <;> omega)
             refine WK [(2, AV.ptr 0 0), (3, AV.ptr 1 0), (4, AV.ptr 2 0), (6, Iz v11), (8, AV.ptr 5 0)] [(0, .cells [Iz v0, AV.lst false false (List.map api_Edge.av v1), Lz v2]), (1, .cells [Iz v3, Iz v4, Iz v5]), (2, c_ref11_With_o ), (3, .grow (flatA (List.map api_Edge.av v16))), (4, .grow (List.map (AV.int .i64) v17)), (5, .cells [Iz v15, AV.slc 3 0 3 v16.length false, AV.slc 4 0 1 v17.length false])] 6 (by simp [F20]) (by simp [F20]) ?_
             refine SQ [92] [none, none, none, none, none, none, none, none, none, none, none, none, none, none, none] fun _ _ g r => ?_
             obtain ⟨⟨h18, h19⟩, hF⟩ := chk_elim hF
             have h18_ := h18
             try simp at h18_
             have h19_ := h19
             try simp at h19_
             obtain ⟨h20, hF⟩ := chk_elim hF
             have h20_ := h20
             try simp at h20_
             obtain ⟨h21, hF⟩ := chk_elim hF
             have h21_ := h21
             try simp at h21_
             obtain ⟨⟨h22, h23⟩, hF⟩ := chk_elim hF
             have h22_ := h22
             try simp at h22_
             have h23_ := h23
             try simp at h23_
             obtain ⟨h24, hF⟩ := chk_elim hF
             have h24_ := h24
             try simp at h24_
             have F21 := And.intro F20 (And.intro h18 (And.intro h19 (And.intro h18_ (And.intro h19_ (And.intro h20 (And.intro h21 (And.intro h22 (And.intro h23 (And.intro h22_ (And.intro h23_ h24))))))))))
             try simp [F21]
             and_intros <;> first | exact g _ (by kernel_rfl) | refine r _ _ _ ?_ | omega | (simp [maxLen, F21] <;> omega)
             refine WK [(4, AV.ptr 2 0), (8, AV.ptr 5 0)] [(2, c_ref11_With_o ), (4, .grow (List.map (AV.int .i64) v17)), (5, .cells [Iz v15, AV.slc 8 0 3 ((((v1.take (v11).toNat) ++ ([(api_Edge.mk v3 v4 v5)] : List api_Edge)) ++ (v1.drop (v11).toNat)).length) false, AV.slc 4 0 1 v17.length false]), (8, .grow (flatA (List.map api_Edge.av (((v1.take (v11).toNat) ++ ([(api_Edge.mk v3 v4 v5)] : List api_Edge)) ++ (v1.drop (v11).toNat)))))] 9 (by simp [F21]) (by simp [F21] <;> omega) ?_
             refine SQ [] [none, none, none] fun _ _ g r => ?_
             try simp [F21]
             and_intros <;> first | exact g _ (by kernel_rfl) | refine r _ _ _ ?_ | omega | (simp [maxLen, F21] <;> omega)
             refine RM h0 [(0, 8), (1, 4), (2, 2)] [(4, AV.ptr 2 0), (5, Iz 0)] [(0, .grow (flatA (List.map api_Edge.av (((v1.take (v11).toNat) ++ ([(api_Edge.mk v3 v4 v5)] : List api_Edge)) ++ (v1.drop (v11).toNat))))), (1, .grow (List.map (AV.int .i64) v17)), (2, .cells [Iz v15, AV.slc 0 0 3 ((((v1.take (v11).toNat) ++ ([(api_Edge.mk v3 v4 v5)] : List api_Edge)) ++ (v1.drop (v11).toNat)).length) false, AV.slc 1 0 1 v17.length false])] 3 (by simp [F21]) (by simp [F21] <;> omega) ?_
             simp only [Option.some.injEq, Prod.mk.injEq] at hF
             obtain ⟨e0, e1, e2, e3⟩ := hF
             subst e0 e1 e2 e3
             refine AW.ret (hQ _ _ _ ?_ (matchO_0 ?_)).1
             ·simp [Try.f20, F21]
             ·simp [F21]
end Go.TF
