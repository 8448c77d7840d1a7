/- Walks: the Go text computes the Lean functions (printed by a program of our own). -/
import Derived.Test.YtmiimcogppdepaaHaPu
import Derived.Test.YtmiimcogppdepaaHaAbsT
import Derived.Test.YtmiimcogppdepaaHaWa0
import Derived.Test.YtmiimcogppdepaaHaWa3
set_option linter.unusedVariables false
set_option linter.unusedSimpArgs false
set_option maxRecDepth 100000
set_option maxHeartbeats 4000000
namespace Go.TF
open Go Go.Abs Go.Proofs Go.Proofs.YtmiimcogppdepaaHaT
theorem w_ref11_index (k : Nat) (v0 : Int) (v1 : (List api_Edge)) (v2 : (List Int)) (v3 : Int) (v4 : Int) (v5 : Int) (v6 : Bool) (hF : ref11_index k v0 v1 v2 v3 v4 = some (v5, v6)) :
  FCall Try.prog 42 [AV.agg [AV.int .i64 v0, AV.lst false false (List.map api_Edge.av v1), AV.lst false false (List.map (AV.int .i64) v2)], AV.int .i64 v3, AV.int .i64 v4] [] (AV.tup [AV.int .i64 v5, AV.bool v6]) [] := by
 unfold ref11_index at hF
 refine EN Try.func42 ?_
 intro c0 w0 Q h0 hQ
 refine WK [(0, AV.agg [Iz v0, AV.lst false false (List.map api_Edge.av v1), Lz v2]), (1, Iz v3), (2, Iz v4)] [] 0 (by simp) (by simp) ?_
 refine SQ [] [none, none, none] fun _ _ g r => ?_
 try simp
 and_intros <;> first | exact g _ (by kernel_rfl) | refine r _ _ _ ?_ | omega | (simp [maxLen] <;> omega)
 refine WK [(1, Iz v3), (2, Iz v4), (3, AV.ptr 0 0)] [(0, .cells [Iz v0, AV.lst false false (List.map api_Edge.av v1), Lz v2])] 1 (by simp) (by simp) ?_
 refine SQ [] [none] fun _ _ g r => ?_
 try simp
 and_intros <;> first | exact g _ (by kernel_rfl) | refine r _ _ _ ?_ | omega | (simp [maxLen] <;> omega)
 refine WK [(1, Iz v3), (2, Iz v4), (3, AV.ptr 0 0), (8, Iz 0)] [(0, .cells [Iz v0, AV.lst false false (List.map api_Edge.av v1), Lz v2])] 1 (by simp) (by simp) ?_
 refine AW.midF (α := Int) (fun v7 => ref11_index.J1 k v1 v3 v4 v7 = some (v5, v6)) (fun v7 => [(1, Iz v3), (2, Iz v4), (3, AV.ptr 0 0), (8, Iz v7)]) (fun v7 => [(0, .cells [Iz v0, AV.lst false false (List.map api_Edge.av v1), Lz v2])]) 1 (fun K59 hK59 => ?_) ?_
 ·refine AW.block ?_
  refine AW.loopF (α := Int) (fun n v9 => ref11_index.L2 k v1 v3 v4 n v9 = some (v5, v6)) (fun v9 => [(1, Iz v3), (2, Iz v4), (3, AV.ptr 0 0), (8, Iz v9)]) (fun v9 => [(0, .cells [Iz v0, AV.lst false false (List.map api_Edge.av v1), Lz v2])]) 1 k (0) hF (by simp) (by simp) (by simp) ?_
  rintro (_|n2) v9 hF K72 hK72
  ·try dsimp only at hF
   rw [ref11_index.L2] at hF; cases hF
  try dsimp only at hF
  rw [ref11_index.L2] at hF
  refine AW.seq fun K74 hK74 => ?_
  refine SQ [] [none, none, none, none, none, none, some (14, true), some (14, true), some (14, true), some (14, true), some (14, true), some (14, true), some (14, true), some (14, true), some (14, true), none] fun _ _ g r => ?_
  by_cases h6 : v9 < (v1.length : Int)
  ·replace hF := ite_t h6 hF
   have h6_ := h6
   try simp at h6_
   obtain ⟨v10, h7, h8, h9, hF⟩ := idx_elim hF
   have h9_ := get_of h9
   try simp at h9_
   have h8_ := h8
   try simp at h8_
   have F1 := And.intro h6 (And.intro h6_ (And.intro h7 (And.intro h8 (And.intro h9 (And.intro h9_ h8_)))))
   try simp [F1]
   and_intros
   try any_goals first | omega | (simp [maxLen, F1] <;> omega)
   obtain ⟨v11, h10, hF⟩ := bnd1_elim hF
   refine AC (w_ref11_before k _ _ _ _ _ _ _ h10) (.cons (.same (by simp [F1])) (.cons (.same (by simp [F1])) .nil)) ?_
   try simp [F1]
   and_intros <;> first | exact g _ (by kernel_rfl) | refine r _ _ _ ?_ | omega | (simp [maxLen, F1] <;> omega)
   refine WK [(1, Iz v3), (2, Iz v4), (3, AV.ptr 0 0), (8, Iz v9), (24, AV.bool v11)] [(0, .cells [Iz v0, AV.lst false false (List.map api_Edge.av v1), Lz v2])] 1 (by simp [F1]) (by simp [F1]) ?_
   by_cases h11 : v11 = true
   ·replace hF := ite_t h11 hF
    have h11_ := h11
    try simp at h11_
    have F2 := And.intro F1 (And.intro h11 h11_)
    refine CT (by simp [F2] <;> omega) ?_
    refine AW.skip ?_
    refine hK74 _ _ _ ?_
    refine AW.block ?_
    refine RG [] [none, none, none] fun _ _ g r => ?_
    try simp [F2]
    and_intros <;> first | exact g _ (by kernel_rfl) | refine r _ _ _ ?_ | omega | (simp [maxLen, F2] <;> omega)
    refine hK72 _ _ _ ?_
    exact NX (k' := n2) (IntKind.wrap .i64 (v9 + 1)) hF (by simp [F2]) (by simp [F2])
   ·replace hF := ite_f h11 hF
    have h11_ := h11
    try simp at h11_
    have F3 := And.intro F1 (And.intro h11 h11_)
    refine CF (by simp [F3] <;> omega) ?_
    refine AW.exit ?_
    try simp
    refine hK59 _ _ _ ?_
    exact JN (v9) hF (by simp [F3]) (by simp [F3])
  ·replace hF := ite_f h6 hF
   have h6_ := h6
   try simp at h6_
   try simp [h6, h6_]
   and_intros <;> first | exact g _ (by kernel_rfl) | refine r _ _ _ ?_ | omega | (simp [h6, h6_, maxLen] <;> omega)
   refine WK [(1, Iz v3), (2, Iz v4), (3, AV.ptr 0 0), (8, Iz v9), (24, AV.bool false)] [(0, .cells [Iz v0, AV.lst false false (List.map api_Edge.av v1), Lz v2])] 1 (by simp [h6, h6_]) (by simp [h6, h6_]) ?_
   refine CF (by simp [h6, h6_]) ?_
   refine AW.exit ?_
   try simp
   refine hK59 _ _ _ ?_
   exact JN (v9) hF (by simp [h6, h6_]) (by simp [h6, h6_])
 ·rintro v7 hF
  try dsimp only at hF
  unfold ref11_index.J1 at hF
  refine SQ [] [none, none, none, none, none, none, none, some (33, true), some (33, true), some (33, true), some (33, true), some (33, true), some (33, true), some (33, true), some (33, true), none, none, some (43, true), some (43, true), some (43, true), some (43, true), some (43, true), some (43, true), some (43, true), some (43, true), none, none, none] fun _ _ g r => ?_
  by_cases h1 : v7 < (v1.length : Int)
  ·replace hF := ite_t h1 hF
   have h1_ := h1
   try simp at h1_
   obtain ⟨v8, h2, h3, h4, hF⟩ := idx_elim hF
   have h4_ := get_of h4
   try simp at h4_
   have h3_ := h3
   try simp at h3_
   by_cases h5 : v8.From = v3
   ·replace hF := ite_t h5 hF
    have h5q : v8.From = v3 := h5
    have h5_ := eqb_t h5q
    have h5__ := neb_f h5q
    have F4 := And.intro h1 (And.intro h1_ (And.intro h2 (And.intro h3 (And.intro h4 (And.intro h4_ (And.intro h3_ (And.intro h5_ h5__)))))))
    try simp [F4]
    and_intros <;> first | exact g _ (by kernel_rfl) | refine r _ _ _ ?_ | omega | (simp [maxLen, F4] <;> omega)
    refine WK [(6, Iz v7), (7, AV.bool (v8.To == v4))] [] 1 (by simp [F4]) (by simp [F4]) ?_
    simp only [Option.some.injEq, Prod.mk.injEq] at hF
    obtain ⟨e0, e1⟩ := hF
    subst e0 e1
    refine AW.ret (hQ _ _ _ ?_ (matchO_0 ?_)).1
    ·simp [Try.f42, F4]
    ·simp [F4]
   ·replace hF := ite_f h5 hF
    have h5_ := eqb_f h5
    have h5__ := neb_t h5
    have F5 := And.intro h1 (And.intro h1_ (And.intro h2 (And.intro h3 (And.intro h4 (And.intro h4_ (And.intro h3_ (And.intro h5 (And.intro h5_ h5__))))))))
    try simp [F5]
    and_intros <;> first | exact g _ (by kernel_rfl) | refine r _ _ _ ?_ | omega | (simp [maxLen, F5] <;> omega)
    refine WK [(6, Iz v7), (7, AV.bool false)] [] 1 (by simp [F5]) (by simp [F5]) ?_
    simp only [Option.some.injEq, Prod.mk.injEq] at hF
    obtain ⟨e0, e1⟩ := hF
    subst e0 e1
    refine AW.ret (hQ _ _ _ ?_ (matchO_0 ?_)).1
    ·simp [Try.f42, F5]
    ·simp [F5]
  ·replace hF := ite_f h1 hF
   have h1_ := h1
   try simp at h1_
   try simp [h1, h1_]
   and_intros <;> first | exact g _ (by kernel_rfl) | refine r _ _ _ ?_ | omega | (simp [h1, h1_, maxLen] <;> omega)
   refine WK [(6, Iz v7), (7, AV.bool false)] [] 1 (by simp [h1, h1_]) (by simp [h1, h1_]) ?_
   simp only [Option.some.injEq, Prod.mk.injEq] at hF
   obtain ⟨e0, e1⟩ := hF
   subst e0 e1
   refine AW.ret (hQ _ _ _ ?_ (matchO_0 ?_)).1
   ·simp [Try.f42, h1, h1_]
   ·simp [h1, h1_]
theorem w_ref11_Copy_o (k : Nat) (v0 : Int) (v1 : (List api_Edge)) (v2 : (List Int)) (v3 : Int) (v4 : (List api_Edge)) (v5 : (List Int)) (hF : ref11_Copy_o k v0 v1 v2 = some (v3, v4, v5)) :
  FCall Try.prog 23 [AV.agg [AV.int .i64 v0, AV.lst false false (List.map api_Edge.av v1), AV.lst false false (List.map (AV.int .i64) v2)]] [] (AV.agg [AV.int .i64 v3, AV.slc 0 0 3 v4.length false, AV.slc 1 0 1 v5.length false]) [some (.grow (flatA (List.map api_Edge.av v4))), some (.grow (List.map (AV.int .i64) v5))] := by
 unfold ref11_Copy_o at hF
 refine EN Try.func23 ?_
 intro c0 w0 Q h0 hQ
 refine WK [(0, AV.agg [Iz v0, AV.lst false false (List.map api_Edge.av v1), Lz v2])] [] 0 (by simp) (by simp) ?_
 refine SQ [] [none, none] fun _ _ g r => ?_
 try simp
 and_intros <;> first | exact g _ (by kernel_rfl) | refine r _ _ _ ?_ | omega | (simp [maxLen] <;> omega)
 refine WK [(1, AV.ptr 0 0), (2, AV.ptr 1 0)] [(0, .cells [Iz v0, AV.lst false false (List.map api_Edge.av v1), Lz v2]), (1, .cells [Iz 0, AV.lst true true (List.map api_Edge.av ([] : List api_Edge)), AV.lst true true (List.map (AV.int .i64) ([] : List Int))])] 2 (by simp) (by simp) ?_
 refine SQ [7, 10] [none, none, none, none, none, none, none, none, none, none] fun _ _ g r => ?_
 obtain ⟨h1, hF⟩ := chk_elim hF
 have h1_ := h1
 try simp at h1_
 obtain ⟨h2, hF⟩ := chk_elim hF
 have h2_ := h2
 try simp at h2_
 try simp [h1, h2]
 and_intros <;> first | exact g _ (by kernel_rfl) | refine r _ _ _ ?_ | omega | (simp [h1, h2, maxLen] <;> omega)
 refine RM h0 [(0, 2), (1, 3), (2, 1)] [(2, AV.ptr 2 0)] [(0, .grow (flatA (List.map api_Edge.av v1))), (1, .grow (List.map (AV.int .i64) v2)), (2, .cells [Iz v0, AV.slc 0 0 3 v1.length false, AV.slc 1 0 1 v2.length false])] 3 (by simp [h1, h2]) (by simp [h1, h2]) ?_
 simp only [Option.some.injEq, Prod.mk.injEq] at hF
 obtain ⟨e0, e1, e2⟩ := hF
 subst e0 e1 e2
 refine AW.ret (hQ _ _ _ ?_ (matchO_0 ?_)).1
 ·simp [Try.f23, h1, h2]
 ·simp [h1, h2]
abbrev c_ref11_With_o  : AObj := .cells [Iz 0, AV.lst true true (List.map api_Edge.av ([] : List api_Edge)), AV.lst true true (List.map (AV.int .i64) ([] : List Int))]
abbrev c_ref11_With_o1  : AObj := .cells [Iz 0, AV.slc 0 0 3 (([] : List api_Edge).length) false, AV.slc 1 0 1 (([] : List Int).length) false]
theorem w_ref11_With_o (k : Nat) (v0 : Int) (v1 : (List api_Edge)) (v2 : (List Int)) (v3 : Int) (v4 : Int) (v5 : Int) (v6 : Int) (v7 : (List api_Edge)) (v8 : (List Int)) (v9 : Int) (hF : ref11_With_o k v0 v1 v2 v3 v4 v5 = some (v6, v7, v8, v9)) :
  FCall Try.prog 20 [AV.agg [AV.int .i64 v0, AV.lst false false (List.map api_Edge.av v1), AV.lst false false (List.map (AV.int .i64) v2)], AV.agg [AV.int .i64 v3, AV.int .i64 v4, AV.int .i64 v5]] [] (AV.tup [AV.agg [AV.int .i64 v6, AV.slc 0 0 3 v7.length false, AV.slc 1 0 1 v8.length false], AV.int .i64 v9]) [some (.grow (flatA (List.map api_Edge.av v7))), some (.grow (List.map (AV.int .i64) v8))] := by
 unfold ref11_With_o at hF
 refine EN Try.func20 ?_
 intro c0 w0 Q h0 hQ
 refine WK [(0, AV.agg [Iz v0, AV.lst false false (List.map api_Edge.av v1), Lz v2]), (1, AV.agg [Iz v3, Iz v4, Iz v5])] [] 0 (by simp) (by simp) ?_
 refine SQ [] [none, none, none, none] fun _ _ g r => ?_
 try simp
 and_intros <;> first | exact g _ (by kernel_rfl) | refine r _ _ _ ?_ | omega | (simp [maxLen] <;> omega)
 refine WK [(2, AV.ptr 0 0), (3, AV.ptr 1 0), (4, AV.ptr 2 0)] [(0, .cells [Iz v0, AV.lst false false (List.map api_Edge.av v1), Lz v2]), (1, .cells [Iz v3, Iz v4, Iz v5]), (2, c_ref11_With_o )] 3 (by simp) (by simp) ?_
 refine AW.seq fun K45 hK45 => ?_
 refine SQ [] [none, none, none] fun _ _ g r => ?_
 try simp
 and_intros
 try any_goals first | omega | (simp [maxLen] <;> omega)
 obtain ⟨v10, h1, hF⟩ := bnd1_elim hF
 refine AC (w_ref11_Check k _ _ _ _ h1) (.cons (.same (by simp)) .nil) ?_
 try simp
 and_intros <;> first | exact g _ (by kernel_rfl) | refine r _ _ _ ?_ | omega | (simp [maxLen] <;> omega)
 refine WK [(2, AV.ptr 0 0), (3, AV.ptr 1 0), (4, AV.ptr 2 0), (11, AV.bool (v10 != 0))] [(0, .cells [Iz v0, AV.lst false false (List.map api_Edge.av v1), Lz v2]), (1, .cells [Iz v3, Iz v4, Iz v5]), (2, c_ref11_With_o )] 3 (by simp) (by simp) ?_
 by_cases h2 : v10 ≠ 0
 ·replace hF := ite_t h2 hF
  have h2_ := eqb_f h2
  have h2__ := neb_t h2
  have F1 := And.intro h2 (And.intro h2_ h2__)
  refine CT (by simp [F1] <;> omega) ?_
  refine SQ [] [none, none, none] fun _ _ g r => ?_
  try simp [F1]
  and_intros <;> first | exact g _ (by kernel_rfl) | refine r _ _ _ ?_ | omega | (simp [maxLen, F1] <;> omega)
  refine WK [(4, AV.ptr 2 0), (5, Iz 14)] [(2, c_ref11_With_o )] 3 (by simp [F1]) (by simp [F1]) ?_
  refine AW.ownC 2 1 3 true (cs := [Iz 0, AV.lst true true (List.map api_Edge.av ([] : List api_Edge)), AV.lst true true (List.map (AV.int .i64) ([] : List Int))]) (by simp [F1]) (by simp) ?_
  refine AW.ownC 2 2 1 true (cs := [Iz 0, AV.slc 3 0 3 (([] : List api_Edge).length) false, AV.lst true true (List.map (AV.int .i64) ([] : List Int))]) (by simp [F1]) (by simp) ?_
  refine RM h0 [(0, 3), (1, 4), (2, 2)] [(4, AV.ptr 2 0), (5, Iz 14)] [(0, .grow (flatA (List.map api_Edge.av ([] : List api_Edge)))), (1, .grow (List.map (AV.int .i64) ([] : List Int))), (2, c_ref11_With_o1 )] 3 (by simp [F1]) (by simp [F1]) ?_
  simp only [Option.some.injEq, Prod.mk.injEq] at hF
  obtain ⟨e0, e1, e2, e3⟩ := hF
  subst e0 e1 e2 e3
  refine AW.ret (hQ _ _ _ ?_ (matchO_0 ?_)).1
  ·simp [Try.f20, F1]
  ·simp [F1]
 ·replace hF := ite_f h2 hF
  have h2q : v10 = 0 := Classical.not_not.1 h2
  have h2_ := eqb_t h2q
  have h2__ := neb_f h2q
  have F2 := And.intro h2_ (And.intro h2__ h2q)
  refine CF (by simp [F2] <;> omega) ?_
  refine AW.skip ?_
  refine hK45 _ _ _ ?_
  refine SQ [] [none, none, none, none, none, none, none, none, none, none, none] fun _ _ g r => ?_
  try simp [F2]
  and_intros
  try any_goals first | omega | (simp [maxLen, F2] <;> omega)
  obtain ⟨v11, v12, h3, hF⟩ := bnd2_elim hF
  refine AC (w_ref11_index k _ _ _ _ _ _ _ h3) (.cons (.same (by simp [F2])) (.cons (.same (by simp [F2])) (.cons (.same (by simp [F2])) .nil))) ?_
  try simp [F2]
  and_intros <;> first | exact g _ (by kernel_rfl) | refine r _ _ _ ?_ | omega | (simp [maxLen, F2] <;> omega)
  refine WK [(2, AV.ptr 0 0), (3, AV.ptr 1 0), (4, AV.ptr 2 0), (6, Iz v11), (7, AV.bool v12)] [(0, .cells [Iz v0, AV.lst false false (List.map api_Edge.av v1), Lz v2]), (1, .cells [Iz v3, Iz v4, Iz v5]), (2, c_ref11_With_o )] 3 (by simp [F2]) (by simp [F2]) ?_
  refine AW.seq fun K64 hK64 => ?_
  refine AW.block ?_
  refine SQ [] [none, none, none, none, some (26, false), some (26, false), some (26, false), some (26, false), some (26, false), none, none, some (33, false), some (33, false), some (33, false), none, none, some (38, false), some (38, false), some (38, false), some (38, false), some (38, false), none, none, some (45, false), some (45, false), some (45, false), some (45, false), some (45, false), none, none, some (52, false), some (52, false), some (52, false), some (52, false), some (52, false), none, none, some (59, false), some (59, false), some (59, false), some (59, false), some (59, false), none, none] fun _ _ g r => ?_
  by_cases h4 : v3 < 0
  ·replace hF := ite_t h4 hF
   have h4_ := h4
   try simp at h4_
   have F3 := And.intro F2 (And.intro h4 h4_)
   try simp [F3]
   and_intros <;> first | exact g _ (by kernel_rfl) | refine r _ _ _ ?_ | omega | (simp [maxLen, F3] <;> omega)
   refine WK [(2, AV.ptr 0 0), (3, AV.ptr 1 0), (4, AV.ptr 2 0), (6, Iz v11), (7, AV.bool v12), (22, AV.bool true)] [(0, .cells [Iz v0, AV.lst false false (List.map api_Edge.av v1), Lz v2]), (1, .cells [Iz v3, Iz v4, Iz v5]), (2, c_ref11_With_o )] 3 (by simp [F3]) (by simp [F3]) ?_
   refine CT (by simp [F3]) ?_
   refine SQ [] [none, none, none] fun _ _ g r => ?_
   try simp [F3]
   and_intros <;> first | exact g _ (by kernel_rfl) | refine r _ _ _ ?_ | omega | (simp [maxLen, F3] <;> omega)
   refine WK [(4, AV.ptr 2 0), (5, Iz 4)] [(2, c_ref11_With_o )] 3 (by simp [F3]) (by simp [F3]) ?_
   refine AW.ownC 2 1 3 true (cs := [Iz 0, AV.lst true true (List.map api_Edge.av ([] : List api_Edge)), AV.lst true true (List.map (AV.int .i64) ([] : List Int))]) (by simp [F3]) (by simp) ?_
   refine AW.ownC 2 2 1 true (cs := [Iz 0, AV.slc 3 0 3 (([] : List api_Edge).length) false, AV.lst true true (List.map (AV.int .i64) ([] : List Int))]) (by simp [F3]) (by simp) ?_
   refine RM h0 [(0, 3), (1, 4), (2, 2)] [(4, AV.ptr 2 0), (5, Iz 4)] [(0, .grow (flatA (List.map api_Edge.av ([] : List api_Edge)))), (1, .grow (List.map (AV.int .i64) ([] : List Int))), (2, c_ref11_With_o1 )] 3 (by simp [F3]) (by simp [F3]) ?_
   simp only [Option.some.injEq, Prod.mk.injEq] at hF
   obtain ⟨e0, e1, e2, e3⟩ := hF
   subst e0 e1 e2 e3
   refine AW.ret (hQ _ _ _ ?_ (matchO_0 ?_)).1
   ·simp [Try.f20, F3]
   ·simp [F3]
  ·replace hF := ite_f h4 hF
   have h4_ := h4
   try simp at h4_
   by_cases h5 : v0 ≤ v3
   ·replace hF := ite_t h5 hF
    have h5_ := h5
    try simp at h5_
    have F4 := And.intro F2 (And.intro h4 (And.intro h4_ (And.intro h5 h5_)))
    try simp [F4]
    and_intros <;> first | exact g _ (by kernel_rfl) | refine r _ _ _ ?_ | omega | (simp [maxLen, F4] <;> omega)
    refine WK [(2, AV.ptr 0 0), (3, AV.ptr 1 0), (4, AV.ptr 2 0), (6, Iz v11), (7, AV.bool v12), (22, AV.bool true)] [(0, .cells [Iz v0, AV.lst false false (List.map api_Edge.av v1), Lz v2]), (1, .cells [Iz v3, Iz v4, Iz v5]), (2, c_ref11_With_o )] 3 (by simp [F4]) (by simp [F4]) ?_
    refine CT (by simp [F4]) ?_
    refine SQ [] [none, none, none] fun _ _ g r => ?_
    try simp [F4]
    and_intros <;> first | exact g _ (by kernel_rfl) | refine r _ _ _ ?_ | omega | (simp [maxLen, F4] <;> omega)
    refine WK [(4, AV.ptr 2 0), (5, Iz 4)] [(2, c_ref11_With_o )] 3 (by simp [F4]) (by simp [F4]) ?_
    refine AW.ownC 2 1 3 true (cs := [Iz 0, AV.lst true true (List.map api_Edge.av ([] : List api_Edge)), AV.lst true true (List.map (AV.int .i64) ([] : List Int))]) (by simp [F4]) (by simp) ?_
    refine AW.ownC 2 2 1 true (cs := [Iz 0, AV.slc 3 0 3 (([] : List api_Edge).length) false, AV.lst true true (List.map (AV.int .i64) ([] : List Int))]) (by simp [F4]) (by simp) ?_
    refine RM h0 [(0, 3), (1, 4), (2, 2)] [(4, AV.ptr 2 0), (5, Iz 4)] [(0, .grow (flatA (List.map api_Edge.av ([] : List api_Edge)))), (1, .grow (List.map (AV.int .i64) ([] : List Int))), (2, c_ref11_With_o1 )] 3 (by simp [F4]) (by simp [F4]) ?_
    simp only [Option.some.injEq, Prod.mk.injEq] at hF
    obtain ⟨e0, e1, e2, e3⟩ := hF
    subst e0 e1 e2 e3
    refine AW.ret (hQ _ _ _ ?_ (matchO_0 ?_)).1
    ·simp [Try.f20, F4]
    ·simp [F4]
   ·replace hF := ite_f h5 hF
    have h5_ := h5
    try simp at h5_
    by_cases h6 : v4 < 0
    ·replace hF := ite_t h6 hF
     have h6_ := h6
     try simp at h6_
     have F5 := And.intro F2 (And.intro h4 (And.intro h4_ (And.intro h5 (And.intro h5_ (And.intro h6 h6_)))))
     try simp [F5]
     and_intros <;> first | exact g _ (by kernel_rfl) | refine r _ _ _ ?_ | omega | (simp [maxLen, F5] <;> omega)
     refine WK [(2, AV.ptr 0 0), (3, AV.ptr 1 0), (4, AV.ptr 2 0), (6, Iz v11), (7, AV.bool v12), (22, AV.bool true)] [(0, .cells [Iz v0, AV.lst false false (List.map api_Edge.av v1), Lz v2]), (1, .cells [Iz v3, Iz v4, Iz v5]), (2, c_ref11_With_o )] 3 (by simp [F5]) (by simp [F5]) ?_
     refine CT (by simp [F5]) ?_
     refine SQ [] [none, none, none] fun _ _ g r => ?_
     try simp [F5]
     and_intros <;> first | exact g _ (by kernel_rfl) | refine r _ _ _ ?_ | omega | (simp [maxLen, F5] <;> omega)
     refine WK [(4, AV.ptr 2 0), (5, Iz 4)] [(2, c_ref11_With_o )] 3 (by simp [F5]) (by simp [F5]) ?_
     refine AW.ownC 2 1 3 true (cs := [Iz 0, AV.lst true true (List.map api_Edge.av ([] : List api_Edge)), AV.lst true true (List.map (AV.int .i64) ([] : List Int))]) (by simp [F5]) (by simp) ?_
     refine AW.ownC 2 2 1 true (cs := [Iz 0, AV.slc 3 0 3 (([] : List api_Edge).length) false, AV.lst true true (List.map (AV.int .i64) ([] : List Int))]) (by simp [F5]) (by simp) ?_
     refine RM h0 [(0, 3), (1, 4), (2, 2)] [(4, AV.ptr 2 0), (5, Iz 4)] [(0, .grow (flatA (List.map api_Edge.av ([] : List api_Edge)))), (1, .grow (List.map (AV.int .i64) ([] : List Int))), (2, c_ref11_With_o1 )] 3 (by simp [F5]) (by simp [F5]) ?_
     simp only [Option.some.injEq, Prod.mk.injEq] at hF
     obtain ⟨e0, e1, e2, e3⟩ := hF
     subst e0 e1 e2 e3
     refine AW.ret (hQ _ _ _ ?_ (matchO_0 ?_)).1
     ·simp [Try.f20, F5]
     ·simp [F5]
    ·replace hF := ite_f h6 hF
     have h6_ := h6
     try simp at h6_
     by_cases h7 : v0 ≤ v4
     ·replace hF := ite_t h7 hF
      have h7_ := h7
      try simp at h7_
      have F6 := And.intro F2 (And.intro h4 (And.intro h4_ (And.intro h5 (And.intro h5_ (And.intro h6 (And.intro h6_ (And.intro h7 h7_)))))))
      try simp [F6]
      and_intros <;> first | exact g _ (by kernel_rfl) | refine r _ _ _ ?_ | omega | (simp [maxLen, F6] <;> omega)
      refine WK [(2, AV.ptr 0 0), (3, AV.ptr 1 0), (4, AV.ptr 2 0), (6, Iz v11), (7, AV.bool v12), (22, AV.bool true)] [(0, .cells [Iz v0, AV.lst false false (List.map api_Edge.av v1), Lz v2]), (1, .cells [Iz v3, Iz v4, Iz v5]), (2, c_ref11_With_o )] 3 (by simp [F6]) (by simp [F6]) ?_
      refine CT (by simp [F6]) ?_
      refine SQ [] [none, none, none] fun _ _ g r => ?_
      try simp [F6]
      and_intros <;> first | exact g _ (by kernel_rfl) | refine r _ _ _ ?_ | omega | (simp [maxLen, F6] <;> omega)
      refine WK [(4, AV.ptr 2 0), (5, Iz 4)] [(2, c_ref11_With_o )] 3 (by simp [F6]) (by simp [F6]) ?_
      refine AW.ownC 2 1 3 true (cs := [Iz 0, AV.lst true true (List.map api_Edge.av ([] : List api_Edge)), AV.lst true true (List.map (AV.int .i64) ([] : List Int))]) (by simp [F6]) (by simp) ?_
      refine AW.ownC 2 2 1 true (cs := [Iz 0, AV.slc 3 0 3 (([] : List api_Edge).length) false, AV.lst true true (List.map (AV.int .i64) ([] : List Int))]) (by simp [F6]) (by simp) ?_
      refine RM h0 [(0, 3), (1, 4), (2, 2)] [(4, AV.ptr 2 0), (5, Iz 4)] [(0, .grow (flatA (List.map api_Edge.av ([] : List api_Edge)))), (1, .grow (List.map (AV.int .i64) ([] : List Int))), (2, c_ref11_With_o1 )] 3 (by simp [F6]) (by simp [F6]) ?_
      simp only [Option.some.injEq, Prod.mk.injEq] at hF
      obtain ⟨e0, e1, e2, e3⟩ := hF
      subst e0 e1 e2 e3
      refine AW.ret (hQ _ _ _ ?_ (matchO_0 ?_)).1
      ·simp [Try.f20, F6]
      ·simp [F6]
     ·replace hF := ite_f h7 hF
      have h7_ := h7
      try simp at h7_
      by_cases h8 : v3 = v4
      ·replace hF := ite_t h8 hF
       have h8q : v3 = v4 := h8
       have h8_ := eqb_t h8q
       have h8__ := neb_f h8q
       have F7 := And.intro F2 (And.intro h4 (And.intro h4_ (And.intro h5 (And.intro h5_ (And.intro h6 (And.intro h6_ (And.intro h7 (And.intro h7_ (And.intro h8_ h8__)))))))))
       try simp [F7]
       and_intros <;> first | exact g _ (by kernel_rfl) | refine r _ _ _ ?_ | omega | (simp [maxLen, F7] <;> omega)
       refine WK [(2, AV.ptr 0 0), (3, AV.ptr 1 0), (4, AV.ptr 2 0), (6, Iz v11), (7, AV.bool v12), (22, AV.bool true)] [(0, .cells [Iz v0, AV.lst false false (List.map api_Edge.av v1), Lz v2]), (1, .cells [Iz v3, Iz v4, Iz v5]), (2, c_ref11_With_o )] 3 (by simp [F7]) (by simp [F7]) ?_
       refine CT (by simp [F7]) ?_
       refine SQ [] [none, none, none] fun _ _ g r => ?_
       try simp [F7]
       and_intros <;> first | exact g _ (by kernel_rfl) | refine r _ _ _ ?_ | omega | (simp [maxLen, F7] <;> omega)
       refine WK [(4, AV.ptr 2 0), (5, Iz 4)] [(2, c_ref11_With_o )] 3 (by simp [F7]) (by simp [F7]) ?_
       refine AW.ownC 2 1 3 true (cs := [Iz 0, AV.lst true true (List.map api_Edge.av ([] : List api_Edge)), AV.lst true true (List.map (AV.int .i64) ([] : List Int))]) (by simp [F7]) (by simp) ?_
       refine AW.ownC 2 2 1 true (cs := [Iz 0, AV.slc 3 0 3 (([] : List api_Edge).length) false, AV.lst true true (List.map (AV.int .i64) ([] : List Int))]) (by simp [F7]) (by simp) ?_
       refine RM h0 [(0, 3), (1, 4), (2, 2)] [(4, AV.ptr 2 0), (5, Iz 4)] [(0, .grow (flatA (List.map api_Edge.av ([] : List api_Edge)))), (1, .grow (List.map (AV.int .i64) ([] : List Int))), (2, c_ref11_With_o1 )] 3 (by simp [F7]) (by simp [F7]) ?_
       simp only [Option.some.injEq, Prod.mk.injEq] at hF
       obtain ⟨e0, e1, e2, e3⟩ := hF
       subst e0 e1 e2 e3
       refine AW.ret (hQ _ _ _ ?_ (matchO_0 ?_)).1
       ·simp [Try.f20, F7]
       ·simp [F7]
      ·replace hF := ite_f h8 hF
       have h8_ := eqb_f h8
       have h8__ := neb_t h8
       have F8 := And.intro F2 (And.intro h4 (And.intro h4_ (And.intro h5 (And.intro h5_ (And.intro h6 (And.intro h6_ (And.intro h7 (And.intro h7_ (And.intro h8 (And.intro h8_ h8__))))))))))
       try simp [F8]
       and_intros
       try any_goals first | omega | (simp [maxLen, F8] <;> omega)
       obtain ⟨v13, h9, hF⟩ := bnd1_elim hF
       refine AC (w_ref11_Has k _ _ _ h9) (.cons (.same (by simp [F8])) (.cons (.same (by simp [F8])) .nil)) ?_
       by_cases h10 : v13 = true
       ·replace hF := ite_t h10 hF
        have h10_ := h10
        try simp at h10_
        have F9 := And.intro F8 (And.intro h10 h10_)
        try simp [F9]
        and_intros <;> first | exact g _ (by kernel_rfl) | refine r _ _ _ ?_ | omega | (simp [maxLen, F9] <;> omega)
        refine WK [(2, AV.ptr 0 0), (3, AV.ptr 1 0), (4, AV.ptr 2 0), (6, Iz v11), (7, AV.bool v12), (22, AV.bool true)] [(0, .cells [Iz v0, AV.lst false false (List.map api_Edge.av v1), Lz v2]), (1, .cells [Iz v3, Iz v4, Iz v5]), (2, c_ref11_With_o )] 3 (by simp [F9]) (by simp [F9]) ?_
        refine CT (by simp [F9]) ?_
        refine SQ [] [none, none, none] fun _ _ g r => ?_
        try simp [F9]
        and_intros <;> first | exact g _ (by kernel_rfl) | refine r _ _ _ ?_ | omega | (simp [maxLen, F9] <;> omega)
        refine WK [(4, AV.ptr 2 0), (5, Iz 4)] [(2, c_ref11_With_o )] 3 (by simp [F9]) (by simp [F9]) ?_
        refine AW.ownC 2 1 3 true (cs := [Iz 0, AV.lst true true (List.map api_Edge.av ([] : List api_Edge)), AV.lst true true (List.map (AV.int .i64) ([] : List Int))]) (by simp [F9]) (by simp) ?_
        refine AW.ownC 2 2 1 true (cs := [Iz 0, AV.slc 3 0 3 (([] : List api_Edge).length) false, AV.lst true true (List.map (AV.int .i64) ([] : List Int))]) (by simp [F9]) (by simp) ?_
        refine RM h0 [(0, 3), (1, 4), (2, 2)] [(4, AV.ptr 2 0), (5, Iz 4)] [(0, .grow (flatA (List.map api_Edge.av ([] : List api_Edge)))), (1, .grow (List.map (AV.int .i64) ([] : List Int))), (2, c_ref11_With_o1 )] 3 (by simp [F9]) (by simp [F9]) ?_
        simp only [Option.some.injEq, Prod.mk.injEq] at hF
        obtain ⟨e0, e1, e2, e3⟩ := hF
        subst e0 e1 e2 e3
        refine AW.ret (hQ _ _ _ ?_ (matchO_0 ?_)).1
        ·simp [Try.f20, F9]
        ·simp [F9]
       ·replace hF := ite_f h10 hF
        have h10_ := h10
        try simp at h10_
        have F10 := And.intro F8 (And.intro h10 h10_)
        try simp [F10]
        and_intros
        try any_goals first | omega | (simp [maxLen, F10] <;> omega)
        obtain ⟨v14, h11, hF⟩ := bnd1_elim hF
        refine AC (w_ref11_Has k _ _ _ h11) (.cons (.same (by simp [F10])) (.cons (.same (by simp [F10])) .nil)) ?_
        try simp [F10]
        and_intros <;> first | exact g _ (by kernel_rfl) | refine r _ _ _ ?_ | omega | (simp [maxLen, F10] <;> omega)
        refine WK [(2, AV.ptr 0 0), (3, AV.ptr 1 0), (4, AV.ptr 2 0), (6, Iz v11), (7, AV.bool v12), (22, AV.bool v14)] [(0, .cells [Iz v0, AV.lst false false (List.map api_Edge.av v1), Lz v2]), (1, .cells [Iz v3, Iz v4, Iz v5]), (2, c_ref11_With_o )] 3 (by simp [F10]) (by simp [F10]) ?_
        by_cases h12 : v14 = true
        ·replace hF := ite_t h12 hF
         have h12_ := h12
         try simp at h12_
         have F11 := And.intro F10 (And.intro h12 h12_)
         refine CT (by simp [F11] <;> omega) ?_
         refine SQ [] [none, none, none] fun _ _ g r => ?_
         try simp [F11]
         and_intros <;> first | exact g _ (by kernel_rfl) | refine r _ _ _ ?_ | omega | (simp [maxLen, F11] <;> omega)
         refine WK [(4, AV.ptr 2 0), (5, Iz 4)] [(2, c_ref11_With_o )] 3 (by simp [F11]) (by simp [F11]) ?_
         refine AW.ownC 2 1 3 true (cs := [Iz 0, AV.lst true true (List.map api_Edge.av ([] : List api_Edge)), AV.lst true true (List.map (AV.int .i64) ([] : List Int))]) (by simp [F11]) (by simp) ?_
         refine AW.ownC 2 2 1 true (cs := [Iz 0, AV.slc 3 0 3 (([] : List api_Edge).length) false, AV.lst true true (List.map (AV.int .i64) ([] : List Int))]) (by simp [F11]) (by simp) ?_
         refine RM h0 [(0, 3), (1, 4), (2, 2)] [(4, AV.ptr 2 0), (5, Iz 4)] [(0, .grow (flatA (List.map api_Edge.av ([] : List api_Edge)))), (1, .grow (List.map (AV.int .i64) ([] : List Int))), (2, c_ref11_With_o1 )] 3 (by simp [F11]) (by simp [F11]) ?_
         simp only [Option.some.injEq, Prod.mk.injEq] at hF
         obtain ⟨e0, e1, e2, e3⟩ := hF
         subst e0 e1 e2 e3
         refine AW.ret (hQ _ _ _ ?_ (matchO_0 ?_)).1
         ·simp [Try.f20, F11]
         ·simp [F11]
        ·replace hF := ite_f h12 hF
         have h12_ := h12
         try simp at h12_
         have F12 := And.intro F10 (And.intro h12 h12_)
         refine CF (by simp [F12] <;> omega) ?_
         refine SQ [] [none, none, none, none, some (71, false), some (71, false), some (71, false), none, none] fun _ _ g r => ?_
         by_cases h13 : v5 < 1
         ·replace hF := ite_t h13 hF
          have h13_ := h13
          try simp at h13_
          have F13 := And.intro F12 (And.intro h13 h13_)
          try simp [F13]
          and_intros <;> first | exact g _ (by kernel_rfl) | refine r _ _ _ ?_ | omega | (simp [maxLen, F13] <;> omega)
          refine WK [(2, AV.ptr 0 0), (3, AV.ptr 1 0), (4, AV.ptr 2 0), (6, Iz v11), (7, AV.bool v12), (67, AV.bool true)] [(0, .cells [Iz v0, AV.lst false false (List.map api_Edge.av v1), Lz v2]), (1, .cells [Iz v3, Iz v4, Iz v5]), (2, c_ref11_With_o )] 3 (by simp [F13]) (by simp [F13]) ?_
          refine CT (by simp [F13]) ?_
          refine SQ [] [none, none, none] fun _ _ g r => ?_
          try simp [F13]
          and_intros <;> first | exact g _ (by kernel_rfl) | refine r _ _ _ ?_ | omega | (simp [maxLen, F13] <;> omega)
          refine WK [(4, AV.ptr 2 0), (5, Iz 2)] [(2, c_ref11_With_o )] 3 (by simp [F13]) (by simp [F13]) ?_
          refine AW.ownC 2 1 3 true (cs := [Iz 0, AV.lst true true (List.map api_Edge.av ([] : List api_Edge)), AV.lst true true (List.map (AV.int .i64) ([] : List Int))]) (by simp [F13]) (by simp) ?_
          refine AW.ownC 2 2 1 true (cs := [Iz 0, AV.slc 3 0 3 (([] : List api_Edge).length) false, AV.lst true true (List.map (AV.int .i64) ([] : List Int))]) (by simp [F13]) (by simp) ?_
          refine RM h0 [(0, 3), (1, 4), (2, 2)] [(4, AV.ptr 2 0), (5, Iz 2)] [(0, .grow (flatA (List.map api_Edge.av ([] : List api_Edge)))), (1, .grow (List.map (AV.int .i64) ([] : List Int))), (2, c_ref11_With_o1 )] 3 (by simp [F13]) (by simp [F13]) ?_
          simp only [Option.some.injEq, Prod.mk.injEq] at hF
          obtain ⟨e0, e1, e2, e3⟩ := hF
          subst e0 e1 e2 e3
          refine AW.ret (hQ _ _ _ ?_ (matchO_0 ?_)).1
          ·simp [Try.f20, F13]
          ·simp [F13]
         ·replace hF := ite_f h13 hF
          have h13_ := h13
          try simp at h13_
          have F14 := And.intro F12 (And.intro h13 h13_)
          try simp [F14]
          and_intros <;> first | exact g _ (by kernel_rfl) | refine r _ _ _ ?_ | omega | (simp [maxLen, F14] <;> omega)
          refine WK [(2, AV.ptr 0 0), (3, AV.ptr 1 0), (4, AV.ptr 2 0), (6, Iz v11), (7, AV.bool v12), (67, AV.bool (decide (3 < v5)))] [(0, .cells [Iz v0, AV.lst false false (List.map api_Edge.av v1), Lz v2]), (1, .cells [Iz v3, Iz v4, Iz v5]), (2, c_ref11_With_o )] 3 (by simp [F14]) (by simp [F14]) ?_
          by_cases h14 : 3 < v5
          ·replace hF := ite_t h14 hF
           have h14_ := h14
           try simp at h14_
           have F15 := And.intro F14 (And.intro h14 h14_)
           refine CT (by simp [F15] <;> omega) ?_
           refine SQ [] [none, none, none] fun _ _ g r => ?_
           try simp [F15]
           and_intros <;> first | exact g _ (by kernel_rfl) | refine r _ _ _ ?_ | omega | (simp [maxLen, F15] <;> omega)
           refine WK [(4, AV.ptr 2 0), (5, Iz 2)] [(2, c_ref11_With_o )] 3 (by simp [F15]) (by simp [F15]) ?_
           refine AW.ownC 2 1 3 true (cs := [Iz 0, AV.lst true true (List.map api_Edge.av ([] : List api_Edge)), AV.lst true true (List.map (AV.int .i64) ([] : List Int))]) (by simp [F15]) (by simp) ?_
           refine AW.ownC 2 2 1 true (cs := [Iz 0, AV.slc 3 0 3 (([] : List api_Edge).length) false, AV.lst true true (List.map (AV.int .i64) ([] : List Int))]) (by simp [F15]) (by simp) ?_
           refine RM h0 [(0, 3), (1, 4), (2, 2)] [(4, AV.ptr 2 0), (5, Iz 2)] [(0, .grow (flatA (List.map api_Edge.av ([] : List api_Edge)))), (1, .grow (List.map (AV.int .i64) ([] : List Int))), (2, c_ref11_With_o1 )] 3 (by simp [F15]) (by simp [F15]) ?_
           simp only [Option.some.injEq, Prod.mk.injEq] at hF
           obtain ⟨e0, e1, e2, e3⟩ := hF
           subst e0 e1 e2 e3
           refine AW.ret (hQ _ _ _ ?_ (matchO_0 ?_)).1
           ·simp [Try.f20, F15]
           ·simp [F15]
          ·replace hF := ite_f h14 hF
           have h14_ := h14
           try simp at h14_
           have F16 := And.intro F14 (And.intro h14 h14_)
           refine CF (by simp [F16] <;> omega) ?_
           refine SQ [] [none, none] fun _ _ g r => ?_
           try simp [F16]
           and_intros <;> first | exact g _ (by kernel_rfl) | refine r _ _ _ ?_ | omega | (simp [maxLen, F16] <;> omega)
           refine WK [(2, AV.ptr 0 0), (3, AV.ptr 1 0), (4, AV.ptr 2 0), (6, Iz v11), (77, AV.bool v12)] [(0, .cells [Iz v0, AV.lst false false (List.map api_Edge.av v1), Lz v2]), (1, .cells [Iz v3, Iz v4, Iz v5]), (2, c_ref11_With_o )] 3 (by simp [F16]) (by simp [F16]) ?_
           by_cases h15 : v12 = true
           ·replace hF := ite_t h15 hF
            have h15_ := h15
            try simp at h15_
            have F17 := And.intro F16 (And.intro h15 h15_)
            refine CT (by simp [F17] <;> omega) ?_
            refine SQ [] [none, none, none] fun _ _ g r => ?_
            try simp [F17]
            and_intros <;> first | exact g _ (by kernel_rfl) | refine r _ _ _ ?_ | omega | (simp [maxLen, F17] <;> omega)
            refine WK [(4, AV.ptr 2 0), (5, Iz 19)] [(2, c_ref11_With_o )] 3 (by simp [F17]) (by simp [F17]) ?_
            refine AW.ownC 2 1 3 true (cs := [Iz 0, AV.lst true true (List.map api_Edge.av ([] : List api_Edge)), AV.lst true true (List.map (AV.int .i64) ([] : List Int))]) (by simp [F17]) (by simp) ?_
            refine AW.ownC 2 2 1 true (cs := [Iz 0, AV.slc 3 0 3 (([] : List api_Edge).length) false, AV.lst true true (List.map (AV.int .i64) ([] : List Int))]) (by simp [F17]) (by simp) ?_
            refine RM h0 [(0, 3), (1, 4), (2, 2)] [(4, AV.ptr 2 0), (5, Iz 19)] [(0, .grow (flatA (List.map api_Edge.av ([] : List api_Edge)))), (1, .grow (List.map (AV.int .i64) ([] : List Int))), (2, c_ref11_With_o1 )] 3 (by simp [F17]) (by simp [F17]) ?_
            simp only [Option.some.injEq, Prod.mk.injEq] at hF
            obtain ⟨e0, e1, e2, e3⟩ := hF
            subst e0 e1 e2 e3
            refine AW.ret (hQ _ _ _ ?_ (matchO_0 ?_)).1
            ·simp [Try.f20, F17]
            ·simp [F17]
           ·replace hF := ite_f h15 hF
            have h15_ := h15
            try simp at h15_
            have F18 := And.intro F16 (And.intro h15 h15_)
            refine CF (by simp [F18] <;> omega) ?_
            refine SQ [] [none, none, none, none, none] fun _ _ g r => ?_
            try simp [F18]
            and_intros <;> first | exact g _ (by kernel_rfl) | refine r _ _ _ ?_ | omega | (simp [maxLen, F18] <;> omega)
            refine WK [(2, AV.ptr 0 0), (3, AV.ptr 1 0), (4, AV.ptr 2 0), (6, Iz v11), (80, AV.bool ((v1.length : Int) == 500))] [(0, .cells [Iz v0, AV.lst false false (List.map api_Edge.av v1), Lz v2]), (1, .cells [Iz v3, Iz v4, Iz v5]), (2, c_ref11_With_o )] 3 (by simp [F18]) (by simp [F18]) ?_
            by_cases h16 : (v1.length : Int) = 500
            ·replace hF := ite_t h16 hF
             have h16q : (v1.length : Int) = 500 := h16
             have h16_ := eqb_t h16q
             have h16__ := neb_f h16q
             have F19 := And.intro F18 (And.intro h16_ (And.intro h16__ h16q))
             refine CT (by simp [F19] <;> omega) ?_
             refine SQ [] [none, none, none] fun _ _ g r => ?_
             try simp [F19]
             and_intros <;> first | exact g _ (by kernel_rfl) | refine r _ _ _ ?_ | omega | (simp [maxLen, F19] <;> omega)
             refine WK [(4, AV.ptr 2 0), (5, Iz 3)] [(2, c_ref11_With_o )] 3 (by simp [F19]) (by simp [F19]) ?_
             refine AW.ownC 2 1 3 true (cs := [Iz 0, AV.lst true true (List.map api_Edge.av ([] : List api_Edge)), AV.lst true true (List.map (AV.int .i64) ([] : List Int))]) (by simp [F19]) (by simp) ?_
             refine AW.ownC 2 2 1 true (cs := [Iz 0, AV.slc 3 0 3 (([] : List api_Edge).length) false, AV.lst true true (List.map (AV.int .i64) ([] : List Int))]) (by simp [F19]) (by simp) ?_
             refine RM h0 [(0, 3), (1, 4), (2, 2)] [(4, AV.ptr 2 0), (5, Iz 3)] [(0, .grow (flatA (List.map api_Edge.av ([] : List api_Edge)))), (1, .grow (List.map (AV.int .i64) ([] : List Int))), (2, c_ref11_With_o1 )] 3 (by simp [F19]) (by simp [F19]) ?_
             simp only [Option.some.injEq, Prod.mk.injEq] at hF
             obtain ⟨e0, e1, e2, e3⟩ := hF
             subst e0 e1 e2 e3
             refine AW.ret (hQ _ _ _ ?_ (matchO_0 ?_)).1
             ·simp [Try.f20, F19]
             ·simp [F19]
            ·replace hF := ite_f h16 hF
             have h16_ := eqb_f h16
             have h16__ := neb_t h16
             have F20 := And.intro F18 (And.intro h16 (And.intro h16_ h16__))
             refine CF (by simp [F20] <;> omega) ?_
             refine AW.skip ?_
             refine hK64 _ _ _ ?_
             refine SQ [] [none, none, none, none] fun _ _ g r => ?_
             try simp [F20]
             and_intros
             try any_goals first | omega | (simp [maxLen, F20] <;> omega)
             obtain ⟨v15, v16, v17, h17, hF⟩ := bnd3_elim hF
             refine AC (w_ref11_Copy_o k _ _ _ _ _ _ h17) (.cons (.same (by simp [F20])) .nil) ?_
             try simp [F20]
             and_intros <;> first | exact g _ (by kernel_rfl) | refine r _ _ _ ?_ | omega | (simp [maxLen, F20] <;> omega)
             refine WK [(2, AV.ptr 0 0), (3, AV.ptr 1 0), (4, AV.ptr 2 0), (6, Iz v11), (8, AV.ptr 5 0)] [(0, .cells [Iz v0, AV.lst false false (List.map api_Edge.av v1), Lz v2]), (1, .cells [Iz v3, Iz v4, Iz v5]), (2, c_ref11_With_o ), (3, .grow (flatA (List.map api_Edge.av v16))), (4, .grow (List.map (AV.int .i64) v17)), (5, .cells [Iz v15, AV.slc 3 0 3 v16.length false, AV.slc 4 0 1 v17.length false])] 6 (by simp [F20]) (by simp [F20]) ?_
             refine SQ [92] [none, none, none, none, none, none, none, none, none, none, none, none, none, none, none] fun _ _ g r => ?_
             obtain ⟨⟨h18, h19⟩, hF⟩ := chk_elim hF
             have h18_ := h18
             try simp at h18_
             have h19_ := h19
             try simp at h19_
             obtain ⟨h20, hF⟩ := chk_elim hF
             have h20_ := h20
             try simp at h20_
             obtain ⟨h21, hF⟩ := chk_elim hF
             have h21_ := h21
             try simp at h21_
             obtain ⟨⟨h22, h23⟩, hF⟩ := chk_elim hF
             have h22_ := h22
             try simp at h22_
             have h23_ := h23
             try simp at h23_
             obtain ⟨h24, hF⟩ := chk_elim hF
             have h24_ := h24
             try simp at h24_
             have F21 := And.intro F20 (And.intro h18 (And.intro h19 (And.intro h18_ (And.intro h19_ (And.intro h20 (And.intro h21 (And.intro h22 (And.intro h23 (And.intro h22_ (And.intro h23_ h24))))))))))
             try simp [F21]
             and_intros <;> first | exact g _ (by kernel_rfl) | refine r _ _ _ ?_ | omega | (simp [maxLen, F21] <;> omega)
             refine WK [(4, AV.ptr 2 0), (8, AV.ptr 5 0)] [(2, c_ref11_With_o ), (4, .grow (List.map (AV.int .i64) v17)), (5, .cells [Iz v15, AV.slc 8 0 3 ((((v1.take (v11).toNat) ++ ([(api_Edge.mk v3 v4 v5)] : List api_Edge)) ++ (v1.drop (v11).toNat)).length) false, AV.slc 4 0 1 v17.length false]), (8, .grow (flatA (List.map api_Edge.av (((v1.take (v11).toNat) ++ ([(api_Edge.mk v3 v4 v5)] : List api_Edge)) ++ (v1.drop (v11).toNat)))))] 9 (by simp [F21]) (by simp [F21] <;> omega) ?_
             refine SQ [] [none, none, none] fun _ _ g r => ?_
             try simp [F21]
             and_intros <;> first | exact g _ (by kernel_rfl) | refine r _ _ _ ?_ | omega | (simp [maxLen, F21] <;> omega)
             refine RM h0 [(0, 8), (1, 4), (2, 2)] [(4, AV.ptr 2 0), (5, Iz 0)] [(0, .grow (flatA (List.map api_Edge.av (((v1.take (v11).toNat) ++ ([(api_Edge.mk v3 v4 v5)] : List api_Edge)) ++ (v1.drop (v11).toNat))))), (1, .grow (List.map (AV.int .i64) v17)), (2, .cells [Iz v15, AV.slc 0 0 3 ((((v1.take (v11).toNat) ++ ([(api_Edge.mk v3 v4 v5)] : List api_Edge)) ++ (v1.drop (v11).toNat)).length) false, AV.slc 1 0 1 v17.length false])] 3 (by simp [F21]) (by simp [F21] <;> omega) ?_
             simp only [Option.some.injEq, Prod.mk.injEq] at hF
             obtain ⟨e0, e1, e2, e3⟩ := hF
             subst e0 e1 e2 e3
             refine AW.ret (hQ _ _ _ ?_ (matchO_0 ?_)).1
             ·simp [Try.f20, F21]
             ·simp [F21]
abbrev c_made_Dice_Graph_o  : AObj := .cells [Iz 0, AV.slc 2 0 3 (([] : List api_Edge).length) false, AV.slc 3 0 1 (([] : List Int).length) false]
abbrev c_made_Dice_Graph_o1  : AObj := .cells [Iz 0, AV.lst true true (List.map api_Edge.av ([] : List api_Edge)), AV.lst true true (List.map (AV.int .i64) ([] : List Int))]
theorem w_made_Dice_Graph_o (k : Nat) (v0 : (List Int)) (v1 : Int) (v2 : Int) (v3 : (List api_Edge)) (v4 : (List Int)) (v5 : Int) (hF : made_Dice_Graph_o k v0 v1 = some (v2, v3, v4, v5)) :
  FCall Try.prog 12 [AV.ptr 0 0] [.cells [AV.lst false false (List.map (AV.int .i64) v0), AV.int .i64 v1]] (AV.agg [AV.int .i64 v2, AV.slc 1 0 3 v3.length false, AV.slc 2 0 1 v4.length false]) [some (.cells [AV.lst false false (List.map (AV.int .i64) v0), AV.int .i64 v5]), some (.grow (flatA (List.map api_Edge.av v3))), some (.grow (List.map (AV.int .i64) v4))] := by
 unfold made_Dice_Graph_o at hF
 refine EN Try.func12 ?_
 intro c0 w0 Q h0 hQ
 refine WK [(0, AV.ptr 0 0)] [(0, .cells [Lz v0, Iz v1])] 1 (by simp) (by simp) ?_
 refine SQ [] [none] fun _ _ g r => ?_
 try simp
 and_intros <;> first | exact g _ (by kernel_rfl) | refine r _ _ _ ?_ | omega | (simp [maxLen] <;> omega)
 refine WK [(0, AV.ptr 0 0), (2, AV.ptr 1 0)] [(0, .cells [Lz v0, Iz v1]), (1, c_made_Dice_Graph_o1 )] 2 (by simp) (by simp) ?_
 refine SQ [] [none, none, none, none, none, none] fun _ _ g r => ?_
 try simp
 and_intros
 try any_goals first | omega | (simp [maxLen] <;> omega)
 obtain ⟨v6, v7, h1, hF⟩ := bnd2_elim hF
 refine aCall_l (w_made_Dice_Next k _ _ _ _ _ h1) (by simp) [0] [] [0] rfl (.cons (.same (by simp)) (.cons (.same (by simp)) .nil)) (by simp) (by decide) (by simp) (by simp) (.inl rfl) (by simp) (by simp) ?_
 try simp
 and_intros <;> first | exact g _ (by kernel_rfl) | refine r _ _ _ ?_ | omega | (simp [maxLen] <;> omega)
 refine WK [(0, AV.ptr 0 0), (2, AV.ptr 1 0), (3, AV.ptr 2 0)] [(0, .cells [Lz v0, Iz v7]), (1, c_made_Dice_Graph_o1 ), (2, .cells [Iz (IntKind.wrap .i64 (2 + v6)), AV.lst true true (List.map api_Edge.av ([] : List api_Edge)), AV.lst true true (List.map (AV.int .i64) ([] : List Int))])] 3 (by simp) (by simp) ?_
 refine AW.midF (α := Int) (fun v8 => made_Dice_Graph_o.J1 k v0 v7 v8 = some (v2, v3, v4, v5)) (fun v8 => [(0, AV.ptr 0 0), (2, AV.ptr 1 0), (3, AV.ptr 2 0)]) (fun v8 => [(0, .cells [Lz v0, Iz v7]), (1, c_made_Dice_Graph_o1 ), (2, .cells [Iz v8, AV.lst true true (List.map api_Edge.av ([] : List api_Edge)), AV.lst true true (List.map (AV.int .i64) ([] : List Int))])]) 3 (fun K210 hK210 => ?_) ?_
 ·refine SQ [] [none, none, none, none, none, none] fun _ _ g r => ?_
  try simp
  and_intros <;> first | exact g _ (by kernel_rfl) | refine r _ _ _ ?_ | omega | (simp [maxLen] <;> omega)
  refine WK [(0, AV.ptr 0 0), (2, AV.ptr 1 0), (3, AV.ptr 2 0), (16, AV.bool ((v0.length : Int) == 0))] [(0, .cells [Lz v0, Iz v7]), (1, c_made_Dice_Graph_o1 ), (2, .cells [Iz (IntKind.wrap .i64 (2 + v6)), AV.lst true true (List.map api_Edge.av ([] : List api_Edge)), AV.lst true true (List.map (AV.int .i64) ([] : List Int))])] 3 (by simp) (by simp) ?_
  by_cases h12 : (v0.length : Int) = 0
  ·replace hF := ite_t h12 hF
   have h12q : (v0.length : Int) = 0 := h12
   have h12_ := eqb_t h12q
   have h12__ := neb_f h12q
   have F1 := And.intro h12_ (And.intro h12__ h12q)
   refine CT (by simp [F1] <;> omega) ?_
   refine RG [] [none, none] fun _ _ g r => ?_
   try simp [F1]
   and_intros <;> first | exact g _ (by kernel_rfl) | refine r _ _ _ ?_ | omega | (simp [maxLen, F1] <;> omega)
   refine hK210 _ _ _ ?_
   exact JN (4) hF (by simp [F1]) (by simp [F1])
  ·replace hF := ite_f h12 hF
   have h12_ := eqb_f h12
   have h12__ := neb_t h12
   have F2 := And.intro h12 (And.intro h12_ h12__)
   refine CF (by simp [F2] <;> omega) ?_
   refine AW.skip ?_
   refine hK210 _ _ _ ?_
   exact JN (IntKind.wrap .i64 (2 + v6)) hF (by simp [F2]) (by simp [F2])
 ·rintro v8 hF
  try dsimp only at hF
  unfold made_Dice_Graph_o.J1 at hF
  refine AW.midF (α := (Int × (List Int))) (fun (v9, v10) => made_Dice_Graph_o.J2 k v0 v8 v9 v10 = some (v2, v3, v4, v5)) (fun (v9, v10) => [(0, AV.ptr 0 0), (2, AV.ptr 1 0), (3, AV.ptr 2 0)]) (fun (v9, v10) => [(0, .cells [Lz v0, Iz v9]), (1, c_made_Dice_Graph_o1 ), (2, .cells [Iz v8, AV.lst true true (List.map api_Edge.av ([] : List api_Edge)), AV.slc 3 0 1 v10.length false]), (3, .grow (List.map (AV.int .i64) v10))]) 4 (fun K207 hK207 => ?_) ?_
  ·refine SQ [] [none, none] fun _ _ g r => ?_
   try simp
   and_intros
   try any_goals first | omega | (simp [maxLen] <;> omega)
   obtain ⟨v32, v33, h9, hF⟩ := bnd2_elim hF
   refine aCall_l (w_made_Dice_One k _ _ _ _ _ h9) (by simp) [0] [] [0] rfl (.cons (.same (by simp)) (.cons (.same (by simp)) .nil)) (by simp) (by decide) (by simp) (by simp) (.inl rfl) (by simp) (by simp) ?_
   try simp
   and_intros <;> first | exact g _ (by kernel_rfl) | refine r _ _ _ ?_ | omega | (simp [maxLen] <;> omega)
   refine WK [(0, AV.ptr 0 0), (2, AV.ptr 1 0), (3, AV.ptr 2 0), (19, AV.bool v32)] [(0, .cells [Lz v0, Iz v33]), (1, c_made_Dice_Graph_o1 ), (2, .cells [Iz v8, AV.lst true true (List.map api_Edge.av ([] : List api_Edge)), AV.lst true true (List.map (AV.int .i64) ([] : List Int))])] 3 (by simp) (by simp) ?_
   by_cases h10 : v32 = true
   ·replace hF := ite_t h10 hF
    have h10_ := h10
    try simp at h10_
    refine CT (by simp [h10, h10_] <;> omega) ?_
    refine RG [24] [none, none, none, none, none, none, none] fun _ _ g r => ?_
    try simp [h10, h10_]
    and_intros
    try any_goals first | omega | (simp [h10, h10_, maxLen] <;> omega)
    obtain ⟨v34, v35, h11, hF⟩ := bnd2_elim hF
    refine aCall_l (w_made_Dice_Next k _ _ _ _ _ h11) (by simp) [0] [] [0] rfl (.cons (.same (by simp [h10, h10_])) (.cons (.same (by simp [h10, h10_])) .nil)) (by simp [h10, h10_]) (by decide) (by simp) (by simp) (.inl rfl) (by simp) (by simp) ?_
    try simp [h10, h10_]
    and_intros <;> first | exact g _ (by kernel_rfl) | refine r _ _ _ ?_ | omega | (simp [h10, h10_, maxLen] <;> omega)
    refine hK207 _ _ _ ?_
    refine Can.weak [(0, AV.ptr 0 0), (2, AV.ptr 1 0), (3, AV.ptr 2 0)] [(0, .cells [Lz v0, Iz v35]), (1, c_made_Dice_Graph_o1 ), (2, .cells [Iz v8, AV.lst true true (List.map api_Edge.av ([] : List api_Edge)), AV.slc 3 0 1 (([v34] : List Int).length) true]), (3, .cells (List.map (AV.int .i64) ([v34] : List Int)))] 4 (by simp [h10, h10_]) (by simp [h10, h10_]) (by simp) ?_
    refine Can.flg [] [(2, .cells [Iz v8, AV.lst true true (List.map api_Edge.av ([] : List api_Edge)), AV.slc 3 0 1 (([v34] : List Int).length) false]), (3, .grow (List.map (AV.int .i64) ([v34] : List Int)))] trivial ⟨⟨AObj.cells [Iz v8, AV.lst true true (List.map api_Edge.av ([] : List api_Edge)), AV.slc 3 0 1 (([v34] : List Int).length) true], by simp [h10, h10_], (.mk (.cons (.same _) (.cons (.same _) (.cons .slc .nil))))⟩, ⟨AObj.cells (List.map (AV.int .i64) ([v34] : List Int)), by simp [h10, h10_], (.gr (by simp [h10, h10_]))⟩, trivial⟩ (by simp) ?_
    exact JN ((v35, ([v34] : List Int))) hF (by simp [h10, h10_]) (by simp [h10, h10_])
   ·replace hF := ite_f h10 hF
    have h10_ := h10
    try simp at h10_
    refine CF (by simp [h10, h10_] <;> omega) ?_
    refine AW.skip ?_
    refine hK207 _ _ _ ?_
    refine Can.ownC 2 2 1 true (cs := [Iz v8, AV.lst true true (List.map api_Edge.av ([] : List api_Edge)), AV.lst true true (List.map (AV.int .i64) ([] : List Int))]) (by simp [h10, h10_]) (by simp) ?_
    exact JN ((v33, ([] : List Int))) hF (by simp [h10, h10_]) (by simp [h10, h10_])
  ·rintro ⟨v9, v10⟩ hF
   try dsimp only at hF
   unfold made_Dice_Graph_o.J2 at hF
   refine AW.seq fun K159 hK159 => ?_
   refine SQ [] [none, none, none] fun _ _ g r => ?_
   try simp
   and_intros
   try any_goals first | omega | (simp [maxLen] <;> omega)
   obtain ⟨v11, v12, h2, hF⟩ := bnd2_elim hF
   refine aCall_l (w_made_Dice_Next k _ _ _ _ _ h2) (by simp) [0] [] [0] rfl (.cons (.same (by simp)) (.cons (.same (by simp)) .nil)) (by simp) (by decide) (by simp) (by simp) (.inl rfl) (by simp) (by simp) ?_
   try simp
   and_intros <;> first | exact g _ (by kernel_rfl) | refine r _ _ _ ?_ | omega | (simp [maxLen] <;> omega)
   refine WK [(0, AV.ptr 0 0), (2, AV.ptr 1 0), (3, AV.ptr 2 0), (4, Iz v11)] [(0, .cells [Lz v0, Iz v12]), (1, c_made_Dice_Graph_o1 ), (2, .cells [Iz v8, AV.lst true true (List.map api_Edge.av ([] : List api_Edge)), AV.slc 3 0 1 v10.length false]), (3, .grow (List.map (AV.int .i64) v10))] 4 (by simp) (by simp) ?_
   refine AW.block ?_
   refine AW.ownC 1 1 3 true (cs := [Iz 0, AV.lst true true (List.map api_Edge.av ([] : List api_Edge)), AV.lst true true (List.map (AV.int .i64) ([] : List Int))]) (by simp) (by simp) ?_
   refine AW.ownC 1 2 1 true (cs := [Iz 0, AV.slc 4 0 3 (([] : List api_Edge).length) false, AV.lst true true (List.map (AV.int .i64) ([] : List Int))]) (by simp) (by simp) ?_
   refine AW.ownC 2 1 3 true (cs := [Iz v8, AV.lst true true (List.map api_Edge.av ([] : List api_Edge)), AV.slc 3 0 1 v10.length false]) (by simp) (by simp) ?_
   refine AW.rnm (m := 1) h0 [(0, 0), (1, 1), (2, 4), (3, 5), (4, 2), (5, 6), (6, 3)] [(0, AV.ptr 0 0), (2, AV.ptr 1 0), (3, AV.ptr 4 0), (4, Iz v11)] [(0, .cells [Lz v0, Iz v12]), (1, c_made_Dice_Graph_o ), (2, .grow (flatA (List.map api_Edge.av ([] : List api_Edge)))), (3, .grow (List.map (AV.int .i64) ([] : List Int))), (4, .cells [Iz v8, AV.slc 5 0 3 (([] : List api_Edge).length) false, AV.slc 6 0 1 v10.length false]), (5, .grow (flatA (List.map api_Edge.av ([] : List api_Edge)))), (6, .grow (List.map (AV.int .i64) v10))] 7 (by decide) (by decide) (by decide) rfl (by simp) (by simp) ?_
   refine AW.loopF (α := (Int × Int × Int × (List api_Edge) × (List Int))) (fun n (v13, v14, v15, v16, v17) => made_Dice_Graph_o.L3 k v0 n v13 v14 v15 v16 v17 = some (v2, v3, v4, v5)) (fun (v13, v14, v15, v16, v17) => [(0, AV.ptr 0 0), (2, AV.ptr 1 0), (3, AV.ptr 4 0), (4, Iz v13)]) (fun (v13, v14, v15, v16, v17) => [(0, .cells [Lz v0, Iz v14]), (1, c_made_Dice_Graph_o ), (2, .grow (flatA (List.map api_Edge.av ([] : List api_Edge)))), (3, .grow (List.map (AV.int .i64) ([] : List Int))), (4, .cells [Iz v15, AV.slc 5 0 3 v16.length false, AV.slc 6 0 1 v17.length false]), (5, .grow (flatA (List.map api_Edge.av v16))), (6, .grow (List.map (AV.int .i64) v17))]) 7 k ((v11, v12, v8, ([] : List api_Edge), v10)) hF (by simp) (by simp) (by simp) ?_
   rintro (_|n3) ⟨v13, v14, v15, v16, v17⟩ hF K194 hK194
   ·try dsimp only at hF
    rw [made_Dice_Graph_o.L3] at hF; cases hF
   try dsimp only at hF
   rw [made_Dice_Graph_o.L3] at hF
   refine AW.seq fun K196 hK196 => ?_
   refine SQ [] [none, none] fun _ _ g r => ?_
   try simp
   and_intros <;> first | exact g _ (by kernel_rfl) | refine r _ _ _ ?_ | omega | (simp [maxLen] <;> omega)
   refine WK [(0, AV.ptr 0 0), (2, AV.ptr 1 0), (3, AV.ptr 4 0), (4, Iz v13), (29, AV.bool (decide (0 < v13)))] [(0, .cells [Lz v0, Iz v14]), (1, c_made_Dice_Graph_o ), (2, .grow (flatA (List.map api_Edge.av ([] : List api_Edge)))), (3, .grow (List.map (AV.int .i64) ([] : List Int))), (4, .cells [Iz v15, AV.slc 5 0 3 v16.length false, AV.slc 6 0 1 v17.length false]), (5, .grow (flatA (List.map api_Edge.av v16))), (6, .grow (List.map (AV.int .i64) v17))] 7 (by simp) (by simp) ?_
   by_cases h3 : 0 < v13
   ·replace hF := ite_t h3 hF
    have h3_ := h3
    try simp at h3_
    refine CT (by simp [h3, h3_] <;> omega) ?_
    refine AW.skip ?_
    refine hK196 _ _ _ ?_
    refine AW.midF (α := (Int × Int × (List api_Edge) × (List Int))) (fun (v18, v19, v20, v21) => made_Dice_Graph_o.J4 k v13 (fun v13_ v14_ v15_ v16_ v17_ => made_Dice_Graph_o.L3 k v0 n3 v13_ v14_ v15_ v16_ v17_) v18 v19 v20 v21 = some (v2, v3, v4, v5)) (fun (v18, v19, v20, v21) => [(0, AV.ptr 0 0), (2, AV.ptr 1 0), (3, AV.ptr 4 0), (4, Iz v13)]) (fun (v18, v19, v20, v21) => [(0, .cells [Lz v0, Iz v18]), (1, c_made_Dice_Graph_o ), (2, .grow (flatA (List.map api_Edge.av ([] : List api_Edge)))), (3, .grow (List.map (AV.int .i64) ([] : List Int))), (4, .cells [Iz v19, AV.slc 5 0 3 v20.length false, AV.slc 6 0 1 v21.length false]), (5, .grow (flatA (List.map api_Edge.av v20))), (6, .grow (List.map (AV.int .i64) v21))]) 7 (fun K202 hK202 => ?_) ?_
    ·refine AW.block ?_
     refine SQ [] [none, none, none, none, none, none, none, none, none, none, none, none, none, none, none, none, none, none, none, none] fun _ _ g r => ?_
     try simp [h3, h3_]
     and_intros
     try any_goals first | omega | (simp [h3, h3_, maxLen] <;> omega)
     obtain ⟨v22, v23, h4, hF⟩ := bnd2_elim hF
     refine aCall_l (w_made_Dice_Next k _ _ _ _ _ h4) (by simp) [0] [] [0] rfl (.cons (.same (by simp [h3, h3_])) (.cons (.same (by simp [h3, h3_])) .nil)) (by simp [h3, h3_]) (by decide) (by simp) (by simp) (.inl rfl) (by simp) (by simp) ?_
     try simp [h3, h3_]
     and_intros
     try any_goals first | omega | (simp [h3, h3_, maxLen] <;> omega)
     obtain ⟨v24, v25, h5, hF⟩ := bnd2_elim hF
     refine aCall_l (w_made_Dice_Next k _ _ _ _ _ h5) (by simp) [0] [] [0] rfl (.cons (.same (by simp [h3, h3_])) (.cons (.same (by simp [h3, h3_])) .nil)) (by simp [h3, h3_]) (by decide) (by simp) (by simp) (.inl rfl) (by simp) (by simp) ?_
     try simp [h3, h3_]
     and_intros
     try any_goals first | omega | (simp [h3, h3_, maxLen] <;> omega)
     obtain ⟨v26, v27, h6, hF⟩ := bnd2_elim hF
     refine aCall_l (w_made_Dice_Next k _ _ _ _ _ h6) (by simp) [0] [] [0] rfl (.cons (.same (by simp [h3, h3_])) (.cons (.same (by simp [h3, h3_])) .nil)) (by simp [h3, h3_]) (by decide) (by simp) (by simp) (.inl rfl) (by simp) (by simp) ?_
     try simp [h3, h3_]
     and_intros
     try any_goals first | omega | (simp [h3, h3_, maxLen] <;> omega)
     obtain ⟨v28, v29, v30, v31, h7, hF⟩ := bnd4_elim hF
     refine aCall_l (w_ref11_With_o k _ _ _ _ _ _ _ _ _ _ h7) (by simp) [] [5, 6] [] rfl (.cons (.agg (.cons (.same (by simp [h3, h3_])) (.cons (Coe.l (o := .grow (flatA (List.map api_Edge.av v16))) (by simp [h3, h3_]) rfl (by simp [h3, h3_]) (by simp [noIdsL]) (by simp [h3, h3_]) (by simp [h3, h3_])) (.cons (Coe.l (o := .grow (List.map (AV.int .i64) v17)) (by simp [h3, h3_]) rfl (by simp [h3, h3_]) (by simp [noIdsL]) (by simp [h3, h3_]) (by simp [h3, h3_])) .nil)))) (.cons (.same (by simp [h3, h3_])) .nil)) (by simp [h3, h3_]) (by decide) (by simp) (by simp) (.inr ⟨by simp, by simp⟩) (by simp) (by simp) ?_
     try simp [h3, h3_]
     and_intros <;> first | exact g _ (by kernel_rfl) | refine r _ _ _ ?_ | omega | (simp [h3, h3_, maxLen] <;> omega)
     refine WK [(0, AV.ptr 0 0), (2, AV.ptr 1 0), (3, AV.ptr 4 0), (4, Iz v13), (5, AV.ptr 9 0), (6, Iz v31)] [(0, .cells [Lz v0, Iz v27]), (1, c_made_Dice_Graph_o ), (2, .grow (flatA (List.map api_Edge.av ([] : List api_Edge)))), (3, .grow (List.map (AV.int .i64) ([] : List Int))), (4, .cells [Iz v15, AV.slc 5 0 3 v16.length false, AV.slc 6 0 1 v17.length false]), (5, .grow (flatA (List.map api_Edge.av v16))), (6, .grow (List.map (AV.int .i64) v17)), (7, .grow (flatA (List.map api_Edge.av v29))), (8, .grow (List.map (AV.int .i64) v30)), (9, .cells [Iz v28, AV.slc 7 0 3 v29.length false, AV.slc 8 0 1 v30.length false])] 10 (by simp [h3, h3_]) (by simp [h3, h3_]) ?_
     refine SQ [] [none, none] fun _ _ g r => ?_
     try simp [h3, h3_]
     and_intros <;> first | exact g _ (by kernel_rfl) | refine r _ _ _ ?_ | omega | (simp [h3, h3_, maxLen] <;> omega)
     refine WK [(0, AV.ptr 0 0), (2, AV.ptr 1 0), (3, AV.ptr 4 0), (4, Iz v13), (5, AV.ptr 9 0), (50, AV.bool (v31 == 0))] [(0, .cells [Lz v0, Iz v27]), (1, c_made_Dice_Graph_o ), (2, .grow (flatA (List.map api_Edge.av ([] : List api_Edge)))), (3, .grow (List.map (AV.int .i64) ([] : List Int))), (4, .cells [Iz v15, AV.slc 5 0 3 v16.length false, AV.slc 6 0 1 v17.length false]), (5, .grow (flatA (List.map api_Edge.av v16))), (6, .grow (List.map (AV.int .i64) v17)), (7, .grow (flatA (List.map api_Edge.av v29))), (8, .grow (List.map (AV.int .i64) v30)), (9, .cells [Iz v28, AV.slc 7 0 3 v29.length false, AV.slc 8 0 1 v30.length false])] 10 (by simp [h3, h3_]) (by simp [h3, h3_]) ?_
     by_cases h8 : v31 = 0
     ·replace hF := ite_t h8 hF
      have h8q : v31 = 0 := h8
      have h8_ := eqb_t h8q
      have h8__ := neb_f h8q
      have F3 := And.intro h3 (And.intro h3_ (And.intro h8_ (And.intro h8__ h8q)))
      refine CT (by simp [F3] <;> omega) ?_
      refine RG [] [none, none] fun _ _ g r => ?_
      try simp [F3]
      and_intros <;> first | exact g _ (by kernel_rfl) | refine r _ _ _ ?_ | omega | (simp [maxLen, F3] <;> omega)
      refine hK202 _ _ _ ?_
      refine Can.weak [(0, AV.ptr 0 0), (2, AV.ptr 1 0), (3, AV.ptr 4 0), (4, Iz v13)] [(0, .cells [Lz v0, Iz v27]), (1, c_made_Dice_Graph_o ), (2, .grow (flatA (List.map api_Edge.av ([] : List api_Edge)))), (3, .grow (List.map (AV.int .i64) ([] : List Int))), (4, .cells [Iz v28, AV.slc 7 0 3 v29.length false, AV.slc 8 0 1 v30.length false]), (7, .grow (flatA (List.map api_Edge.av v29))), (8, .grow (List.map (AV.int .i64) v30))] 10 (by simp [F3]) (by simp [F3]) (by simp) ?_
      refine Can.ren (m := 1) h0 [(0, 0), (1, 1), (2, 2), (3, 3), (4, 4), (5, 7), (6, 8)] [(0, AV.ptr 0 0), (2, AV.ptr 1 0), (3, AV.ptr 4 0), (4, Iz v13)] [(0, .cells [Lz v0, Iz v27]), (1, c_made_Dice_Graph_o ), (2, .grow (flatA (List.map api_Edge.av ([] : List api_Edge)))), (3, .grow (List.map (AV.int .i64) ([] : List Int))), (4, .cells [Iz v28, AV.slc 5 0 3 v29.length false, AV.slc 6 0 1 v30.length false]), (5, .grow (flatA (List.map api_Edge.av v29))), (6, .grow (List.map (AV.int .i64) v30))] 7 (by decide) (by decide) (by decide) rfl (by simp [F3]) (by simp [F3]) ?_
      exact JN ((v27, v28, v29, v30)) hF (by simp [F3]) (by simp [F3])
     ·replace hF := ite_f h8 hF
      have h8_ := eqb_f h8
      have h8__ := neb_t h8
      have F4 := And.intro h3 (And.intro h3_ (And.intro h8 (And.intro h8_ h8__)))
      refine CF (by simp [F4] <;> omega) ?_
      refine AW.skip ?_
      refine hK202 _ _ _ ?_
      refine Can.ren (m := 1) h0 [(0, 0), (1, 1), (2, 2), (3, 3), (4, 4), (5, 5), (6, 6)] [(0, AV.ptr 0 0), (2, AV.ptr 1 0), (3, AV.ptr 4 0), (4, Iz v13)] [(0, .cells [Lz v0, Iz v27]), (1, c_made_Dice_Graph_o ), (2, .grow (flatA (List.map api_Edge.av ([] : List api_Edge)))), (3, .grow (List.map (AV.int .i64) ([] : List Int))), (4, .cells [Iz v15, AV.slc 5 0 3 v16.length false, AV.slc 6 0 1 v17.length false]), (5, .grow (flatA (List.map api_Edge.av v16))), (6, .grow (List.map (AV.int .i64) v17))] 7 (by decide) (by decide) (by decide) rfl (by simp [F4]) (by simp [F4]) ?_
      exact JN ((v27, v15, v16, v17)) hF (by simp [F4]) (by simp [F4])
    ·rintro ⟨v18, v19, v20, v21⟩ hF
     try dsimp only at hF
     unfold made_Dice_Graph_o.J4 at hF
     refine RG [] [none, none, none] fun _ _ g r => ?_
     try simp [h3, h3_]
     and_intros <;> first | exact g _ (by kernel_rfl) | refine r _ _ _ ?_ | omega | (simp [h3, h3_, maxLen] <;> omega)
     refine hK194 _ _ _ ?_
     exact NX (k' := n3) ((IntKind.wrap .i64 (v13 - 1), v18, v19, v20, v21)) hF (by simp [h3, h3_]) (by simp [h3, h3_])
   ·replace hF := ite_f h3 hF
    have h3_ := h3
    try simp at h3_
    refine CF (by simp [h3, h3_] <;> omega) ?_
    refine AW.exit ?_
    try simp
    refine hK159 _ _ _ ?_
    refine SQ [] [none, none] fun _ _ g r => ?_
    try simp [h3, h3_]
    and_intros <;> first | exact g _ (by kernel_rfl) | refine r _ _ _ ?_ | omega | (simp [h3, h3_, maxLen] <;> omega)
    refine WK [(2, AV.ptr 1 0)] [(0, .cells [Lz v0, Iz v14]), (1, .cells [Iz v15, AV.slc 5 0 3 v16.length false, AV.slc 6 0 1 v17.length false]), (5, .grow (flatA (List.map api_Edge.av v16))), (6, .grow (List.map (AV.int .i64) v17))] 7 (by simp [h3, h3_]) (by simp [h3, h3_]) ?_
    refine AW.rnm (m := 1) h0 [(0, 0), (1, 5), (2, 6), (3, 1)] [(2, AV.ptr 3 0)] [(0, .cells [Lz v0, Iz v14]), (1, .grow (flatA (List.map api_Edge.av v16))), (2, .grow (List.map (AV.int .i64) v17)), (3, .cells [Iz v15, AV.slc 1 0 3 v16.length false, AV.slc 2 0 1 v17.length false])] 4 (by decide) (by decide) (by decide) rfl (by simp [h3, h3_]) (by simp [h3, h3_]) ?_
    simp only [Option.some.injEq, Prod.mk.injEq] at hF
    obtain ⟨e0, e1, e2, e3⟩ := hF
    subst e0 e1 e2 e3
    refine AW.ret (hQ _ _ _ ?_ (matchO_0 ?_)).1
    ·simp [Try.f12, h3, h3_]
    ·simp [h3, h3_]
theorem w_made_Dice_Of (k : Nat) (v0 : (List Int)) (v1 : Int) (v2 : (List Int)) (v3 : Int) (v4 : Int) (hF : made_Dice_Of k v0 v1 v2 = some (v3, v4)) :
  FCall Try.prog 19 [AV.ptr 0 0, AV.lst false false (List.map (AV.int .i64) v2)] [.cells [AV.lst false false (List.map (AV.int .i64) v0), AV.int .i64 v1]] (AV.int .i64 v3) [some (.cells [AV.lst false false (List.map (AV.int .i64) v0), AV.int .i64 v4])] := by
 unfold made_Dice_Of at hF
 refine EN Try.func19 ?_
 intro c0 w0 Q h0 hQ
 refine WK [(0, AV.ptr 0 0), (1, Lz v2)] [(0, .cells [Lz v0, Iz v1])] 1 (by simp) (by simp) ?_
 refine SQ [] [none] fun _ _ g r => ?_
 try simp
 and_intros <;> first | exact g _ (by kernel_rfl) | refine r _ _ _ ?_ | omega | (simp [maxLen] <;> omega)
 refine WK [(0, AV.ptr 0 0), (1, Lz v2)] [(0, .cells [Lz v0, Iz v1])] 1 (by simp) (by simp) ?_
 refine SQ [] [none, none, none, none, none, none, none, none] fun _ _ g r => ?_
 try simp
 and_intros
 try any_goals first | omega | (simp [maxLen] <;> omega)
 obtain ⟨v5, v6, h1, hF⟩ := bnd2_elim hF
 refine aCall_l (w_made_Dice_Next k _ _ _ _ _ h1) (by simp) [0] [] [0] rfl (.cons (.same (by simp)) (.cons (.same (by simp)) .nil)) (by simp) (by decide) (by simp) (by simp) (.inl rfl) (by simp) (by simp) ?_
 obtain ⟨v7, h2, h3, h4, hF⟩ := idx_elim hF
 have h4_ := get_of h4
 try simp at h4_
 have h3_ := h3
 try simp at h3_
 have F1 := And.intro h2 (And.intro h3 (And.intro h4 (And.intro h4_ h3_)))
 try simp [F1]
 and_intros <;> first | exact g _ (by kernel_rfl) | refine r _ _ _ ?_ | omega | (simp [maxLen, F1] <;> omega)
 refine WK [(4, Iz v7)] [(0, .cells [Lz v0, Iz v6])] 1 (by simp [F1]) (by simp [F1]) ?_
 simp only [Option.some.injEq, Prod.mk.injEq] at hF
 obtain ⟨e0, e1⟩ := hF
 subst e0 e1
 refine AW.ret (hQ _ _ _ ?_ (matchO_0 ?_)).1
 ·simp [Try.f19, F1]
 ·simp [F1]
theorem w_ref11_Put (k : Nat) (v0 : (List Int)) (v1 : Int) (v2 : (List Int)) (hF : ref11_Put k v0 v1 = some v2) :
  FCall Try.prog 40 [AV.lst false false (List.map (AV.int .i64) v0), AV.int .i64 v1] [] (AV.slc 0 0 1 v2.length false) [some (.grow (List.map (AV.int .i64) v2))] := by
 unfold ref11_Put at hF
 refine EN Try.func40 ?_
 intro c0 w0 Q h0 hQ
 refine WK [(0, Lz v0), (1, Iz v1)] [] 0 (by simp) (by simp) ?_
 refine SQ [] [none] fun _ _ g r => ?_
 try simp
 and_intros <;> first | exact g _ (by kernel_rfl) | refine r _ _ _ ?_ | omega | (simp [maxLen] <;> omega)
 refine WK [(0, Lz v0), (1, Iz v1)] [] 0 (by simp) (by simp) ?_
 refine SQ [] [none] fun _ _ g r => ?_
 try simp
 and_intros <;> first | exact g _ (by kernel_rfl) | refine r _ _ _ ?_ | omega | (simp [maxLen] <;> omega)
 refine WK [(0, Lz v0), (1, Iz v1), (5, Iz 0)] [] 0 (by simp) (by simp) ?_
 refine AW.midF (α := Int) (fun v3 => ref11_Put.J1 k v0 v1 v3 = some v2) (fun v3 => [(0, Lz v0), (1, Iz v1), (5, Iz v3)]) (fun v3 => []) 0 (fun K69 hK69 => ?_) ?_
 ·refine AW.block ?_
  refine AW.loopF (α := Int) (fun n v5 => ref11_Put.L3 k v0 v1 n v5 = some v2) (fun v5 => [(0, Lz v0), (1, Iz v1), (5, Iz v5)]) (fun v5 => []) 0 k (0) hF (by simp) (by simp) (by simp) ?_
  rintro (_|n3) v5 hF K82 hK82
  ·try dsimp only at hF
   rw [ref11_Put.L3] at hF; cases hF
  try dsimp only at hF
  rw [ref11_Put.L3] at hF
  refine AW.seq fun K84 hK84 => ?_
  refine SQ [] [none, none, none, none, none, some (10, true), some (10, true), some (10, true), some (10, true), some (10, true), some (10, true), none] fun _ _ g r => ?_
  by_cases h14 : v5 < (v0.length : Int)
  ·replace hF := ite_t h14 hF
   have h14_ := h14
   try simp at h14_
   obtain ⟨v6, h15, h16, h17, hF⟩ := idx_elim hF
   have h17_ := get_of h17
   try simp at h17_
   have h16_ := h16
   try simp at h16_
   have F1 := And.intro h14 (And.intro h14_ (And.intro h15 (And.intro h16 (And.intro h17 (And.intro h17_ h16_)))))
   try simp [F1]
   and_intros <;> first | exact g _ (by kernel_rfl) | refine r _ _ _ ?_ | omega | (simp [maxLen, F1] <;> omega)
   refine WK [(0, Lz v0), (1, Iz v1), (5, Iz v5), (17, AV.bool (decide (v6 < v1)))] [] 0 (by simp [F1]) (by simp [F1]) ?_
   by_cases h18 : v6 < v1
   ·replace hF := ite_t h18 hF
    have h18_ := h18
    try simp at h18_
    have F2 := And.intro F1 (And.intro h18 h18_)
    refine CT (by simp [F2] <;> omega) ?_
    refine AW.skip ?_
    refine hK84 _ _ _ ?_
    refine AW.block ?_
    refine RG [] [none, none, none] fun _ _ g r => ?_
    try simp [F2]
    and_intros <;> first | exact g _ (by kernel_rfl) | refine r _ _ _ ?_ | omega | (simp [maxLen, F2] <;> omega)
    refine hK82 _ _ _ ?_
    exact NX (k' := n3) (IntKind.wrap .i64 (v5 + 1)) hF (by simp [F2]) (by simp [F2])
   ·replace hF := ite_f h18 hF
    have h18_ := h18
    try simp at h18_
    have F3 := And.intro F1 (And.intro h18 h18_)
    refine CF (by simp [F3] <;> omega) ?_
    refine AW.exit ?_
    try simp
    refine hK69 _ _ _ ?_
    exact JN (v5) hF (by simp [F3]) (by simp [F3])
  ·replace hF := ite_f h14 hF
   have h14_ := h14
   try simp at h14_
   try simp [h14, h14_]
   and_intros <;> first | exact g _ (by kernel_rfl) | refine r _ _ _ ?_ | omega | (simp [h14, h14_, maxLen] <;> omega)
   refine WK [(0, Lz v0), (1, Iz v1), (5, Iz v5), (17, AV.bool false)] [] 0 (by simp [h14, h14_]) (by simp [h14, h14_]) ?_
   refine CF (by simp [h14, h14_]) ?_
   refine AW.exit ?_
   try simp
   refine hK69 _ _ _ ?_
   exact JN (v5) hF (by simp [h14, h14_]) (by simp [h14, h14_])
 ·rintro v3 hF
  try dsimp only at hF
  unfold ref11_Put.J1 at hF
  refine AW.midF (α := Unit) (fun _ => ref11_Put.J2 k v0 v1 v3 = some v2) (fun _ => [(0, Lz v0), (1, Iz v1), (5, Iz v3)]) (fun _ => []) 0 (fun K66 hK66 => ?_) ?_
  ·refine SQ [] [none, none, none, none, none, some (24, true), some (24, true), some (24, true), some (24, true), some (24, true), some (24, true), none] fun _ _ g r => ?_
   by_cases h8 : v3 < (v0.length : Int)
   ·replace hF := ite_t h8 hF
    have h8_ := h8
    try simp at h8_
    obtain ⟨v4, h9, h10, h11, hF⟩ := idx_elim hF
    have h11_ := get_of h11
    try simp at h11_
    have h10_ := h10
    try simp at h10_
    have F4 := And.intro h8 (And.intro h8_ (And.intro h9 (And.intro h10 (And.intro h11 (And.intro h11_ h10_)))))
    try simp [F4]
    and_intros <;> first | exact g _ (by kernel_rfl) | refine r _ _ _ ?_ | omega | (simp [maxLen, F4] <;> omega)
    refine WK [(0, Lz v0), (1, Iz v1), (5, Iz v3), (31, AV.bool (v4 == v1))] [] 0 (by simp [F4]) (by simp [F4]) ?_
    by_cases h12 : v4 = v1
    ·replace hF := ite_t h12 hF
     have h12q : v4 = v1 := h12
     have h12_ := eqb_t h12q
     have h12__ := neb_f h12q
     refine CT (by simp [F4, h12_, h12__] <;> omega) ?_
     refine SQ [33] [none, none, none] fun _ _ g r => ?_
     obtain ⟨h13, hF⟩ := chk_elim hF
     have h13_ := h13
     try simp at h13_
     have F5 := And.intro F4 (And.intro h12_ (And.intro h12__ h13))
     try simp [F5]
     and_intros <;> first | exact g _ (by kernel_rfl) | refine r _ _ _ ?_ | omega | (simp [maxLen, F5] <;> omega)
     refine WK [(4, AV.slc 0 0 1 v0.length false)] [(0, .grow (List.map (AV.int .i64) v0))] 1 (by simp [F5]) (by simp [F5]) ?_
     simp only [Option.some.injEq] at hF
     subst hF
     refine AW.ret (hQ _ _ _ ?_ (matchO_0 ?_)).1
     ·simp [Try.f40, F5]
     ·simp [F5]
    ·replace hF := ite_f h12 hF
     have h12_ := eqb_f h12
     have h12__ := neb_t h12
     have F6 := And.intro F4 (And.intro h12 (And.intro h12_ h12__))
     refine CF (by simp [F6] <;> omega) ?_
     refine AW.skip ?_
     refine hK66 _ _ _ ?_
     exact JN (()) hF (by simp [F6]) (by simp [F6])
   ·replace hF := ite_f h8 hF
    have h8_ := h8
    try simp at h8_
    try simp [h8, h8_]
    and_intros <;> first | exact g _ (by kernel_rfl) | refine r _ _ _ ?_ | omega | (simp [h8, h8_, maxLen] <;> omega)
    refine WK [(0, Lz v0), (1, Iz v1), (5, Iz v3), (31, AV.bool false)] [] 0 (by simp [h8, h8_]) (by simp [h8, h8_]) ?_
    refine CF (by simp [h8, h8_]) ?_
    refine AW.skip ?_
    refine hK66 _ _ _ ?_
    exact JN (()) hF (by simp [h8, h8_]) (by simp [h8, h8_])
  ·rintro ⟨⟩ hF
   try dsimp only at hF
   unfold ref11_Put.J2 at hF
   refine SQ [37] [none, none, none, none, none, none, none, none, none, none, none, none] fun _ _ g r => ?_
   obtain ⟨⟨h1, h2⟩, hF⟩ := chk_elim hF
   have h1_ := h1
   try simp at h1_
   have h2_ := h2
   try simp at h2_
   obtain ⟨h3, hF⟩ := chk_elim hF
   have h3_ := h3
   try simp at h3_
   obtain ⟨h4, hF⟩ := chk_elim hF
   have h4_ := h4
   try simp at h4_
   obtain ⟨⟨h5, h6⟩, hF⟩ := chk_elim hF
   have h5_ := h5
   try simp at h5_
   have h6_ := h6
   try simp at h6_
   obtain ⟨h7, hF⟩ := chk_elim hF
   have h7_ := h7
   try simp at h7_
   have F7 := And.intro h1 (And.intro h2 (And.intro h1_ (And.intro h2_ (And.intro h3 (And.intro h4 (And.intro h5 (And.intro h6 (And.intro h5_ (And.intro h6_ h7)))))))))
   try simp [F7]
   and_intros <;> first | exact g _ (by kernel_rfl) | refine r _ _ _ ?_ | omega | (simp [maxLen, F7] <;> omega)
   refine RM h0 [(0, 2)] [(4, AV.slc 0 0 1 ((((v0.take (v3).toNat) ++ ([v1] : List Int)) ++ (v0.drop (v3).toNat)).length) false)] [(0, .grow (List.map (AV.int .i64) (((v0.take (v3).toNat) ++ ([v1] : List Int)) ++ (v0.drop (v3).toNat))))] 1 (by simp [F7] <;> omega) (by simp [F7]) ?_
   simp only [Option.some.injEq] at hF
   subst hF
   refine AW.ret (hQ _ _ _ ?_ (matchO_0 ?_)).1
   ·simp [Try.f40, F7]
   ·simp [F7]
abbrev c_made_Dice_Policy  : AObj := .cells [AV.lst true true (List.map (AV.int .i64) ([] : List Int)), AV.lst true true (List.map (AV.int .i64) ([] : List Int)), Iz 0]
abbrev c_made_Dice_Policy1  : AObj := .cells [AV.lst true true (List.map (AV.int .i64) ([] : List Int)), AV.slc 2 0 1 (([] : List Int).length) false, Iz 0]
theorem w_made_Dice_Policy (k : Nat) (v0 : (List Int)) (v1 : Int) (v2 : Int) (v3 : (List api_Edge)) (v4 : (List Int)) (v5 : (List Int)) (v6 : (List Int)) (v7 : Int) (v8 : Int) (hF : made_Dice_Policy k v0 v1 v2 v3 v4 = some (v5, v6, v7, v8)) :
  FCall Try.prog 16 [AV.ptr 0 0, AV.agg [AV.int .i64 v2, AV.lst false false (List.map api_Edge.av v3), AV.lst false false (List.map (AV.int .i64) v4)]] [.cells [AV.lst false false (List.map (AV.int .i64) v0), AV.int .i64 v1]] (AV.agg [AV.lst false false (List.map (AV.int .i64) v5), AV.slc 1 0 1 v6.length false, AV.int .i64 v7]) [some (.cells [AV.lst false false (List.map (AV.int .i64) v0), AV.int .i64 v8]), some (.grow (List.map (AV.int .i64) v6))] := by
 unfold made_Dice_Policy at hF
 refine EN Try.func16 ?_
 intro c0 w0 Q h0 hQ
 refine WK [(0, AV.ptr 0 0), (1, AV.agg [Iz v2, AV.lst false false (List.map api_Edge.av v3), Lz v4])] [(0, .cells [Lz v0, Iz v1])] 1 (by simp) (by simp) ?_
 refine SQ [] [none, none] fun _ _ g r => ?_
 try simp
 and_intros <;> first | exact g _ (by kernel_rfl) | refine r _ _ _ ?_ | omega | (simp [maxLen] <;> omega)
 refine WK [(0, AV.ptr 0 0), (3, AV.ptr 1 0), (4, AV.ptr 2 0)] [(0, .cells [Lz v0, Iz v1]), (1, .cells [Iz v2, AV.lst false false (List.map api_Edge.av v3), Lz v4]), (2, c_made_Dice_Policy )] 3 (by simp) (by simp) ?_
 refine SQ [] [none, none, none, none, none, none, none, none, none, none, none] fun _ _ g r => ?_
 try simp
 and_intros
 try any_goals first | omega | (simp [maxLen] <;> omega)
 obtain ⟨v9, v10, h1, hF⟩ := bnd2_elim hF
 refine aCall_l (w_made_Dice_Next k _ _ _ _ _ h1) (by simp) [0] [] [0] rfl (.cons (.same (by simp)) (.cons (.same (by simp)) .nil)) (by simp) (by decide) (by simp) (by simp) (.inl rfl) (by simp) (by simp) ?_
 try simp
 and_intros
 try any_goals first | omega | (simp [maxLen] <;> omega)
 obtain ⟨v11, v12, h2, hF⟩ := bnd2_elim hF
 refine aCall_l (w_made_Dice_Of k _ _ _ _ _ h2) (by simp) [0] [] [0] rfl (.cons (.same (by simp)) (.cons (Coe.fl (by simp)) .nil)) (by simp) (by decide) (by simp) (by simp) (.inl rfl) (by simp) (by simp) ?_
 try simp
 and_intros <;> first | exact g _ (by kernel_rfl) | refine r _ _ _ ?_ | omega | (simp [maxLen] <;> omega)
 refine WK [(0, AV.ptr 0 0), (3, AV.ptr 1 0), (4, AV.ptr 2 0), (5, AV.ptr 3 0)] [(0, .cells [Lz v0, Iz v12]), (1, .cells [Iz v2, AV.lst false false (List.map api_Edge.av v3), Lz v4]), (2, c_made_Dice_Policy ), (3, .cells [AV.lst false true (List.map (AV.int .i64) ([v9] : List Int)), AV.lst true true (List.map (AV.int .i64) ([] : List Int)), Iz v11])] 4 (by simp) (by simp) ?_
 refine AW.midF (α := (Int × (List Int))) (fun (v13, v14) => made_Dice_Policy.J1 k v0 v11 v13 v14 = some (v5, v6, v7, v8)) (fun (v13, v14) => [(0, AV.ptr 0 0), (4, AV.ptr 1 0), (5, AV.ptr 2 0)]) (fun (v13, v14) => [(0, .cells [Lz v0, Iz v13]), (1, c_made_Dice_Policy ), (2, .cells [Lz v14, AV.lst true true (List.map (AV.int .i64) ([] : List Int)), Iz v11])]) 3 (fun K170 hK170 => ?_) ?_
 ·refine SQ [] [none, none] fun _ _ g r => ?_
  try simp
  and_intros
  try any_goals first | omega | (simp [maxLen] <;> omega)
  obtain ⟨v26, v27, h9, hF⟩ := bnd2_elim hF
  refine aCall_l (w_made_Dice_One k _ _ _ _ _ h9) (by simp) [0] [] [0] rfl (.cons (.same (by simp)) (.cons (.same (by simp)) .nil)) (by simp) (by decide) (by simp) (by simp) (.inl rfl) (by simp) (by simp) ?_
  try simp
  and_intros <;> first | exact g _ (by kernel_rfl) | refine r _ _ _ ?_ | omega | (simp [maxLen] <;> omega)
  refine WK [(0, AV.ptr 0 0), (3, AV.ptr 1 0), (4, AV.ptr 2 0), (5, AV.ptr 3 0), (18, AV.bool v26)] [(0, .cells [Lz v0, Iz v27]), (1, .cells [Iz v2, AV.lst false false (List.map api_Edge.av v3), Lz v4]), (2, c_made_Dice_Policy ), (3, .cells [AV.lst false true (List.map (AV.int .i64) ([v9] : List Int)), AV.lst true true (List.map (AV.int .i64) ([] : List Int)), Iz v11])] 4 (by simp) (by simp) ?_
  by_cases h10 : v26 = true
  ·replace hF := ite_t h10 hF
   have h10_ := h10
   try simp at h10_
   refine CT (by simp [h10, h10_] <;> omega) ?_
   refine RG [] [none, none, none, none, none, none, none, none, none] fun _ _ g r => ?_
   try simp [h10, h10_]
   and_intros
   try any_goals first | omega | (simp [h10, h10_, maxLen] <;> omega)
   obtain ⟨v28, v29, h11, hF⟩ := bnd2_elim hF
   refine aCall_l (w_made_Dice_Next k _ _ _ _ _ h11) (by simp) [0] [] [0] rfl (.cons (.same (by simp [h10, h10_])) (.cons (.same (by simp [h10, h10_])) .nil)) (by simp [h10, h10_]) (by decide) (by simp) (by simp) (.inl rfl) (by simp) (by simp) ?_
   try simp [h10, h10_]
   and_intros
   try any_goals first | omega | (simp [h10, h10_, maxLen] <;> omega)
   obtain ⟨v30, h12, hF⟩ := bnd1_elim hF
   refine AC (w_ref11_Put k _ _ _ h12) (.cons (Coe.fl (by simp [h10, h10_])) (.cons (.same (by simp [h10, h10_])) .nil)) ?_
   try simp [h10, h10_]
   and_intros <;> first | exact g _ (by kernel_rfl) | refine r _ _ _ ?_ | omega | (simp [h10, h10_, maxLen] <;> omega)
   refine hK170 _ _ _ ?_
   refine Can.weak [(0, AV.ptr 0 0), (4, AV.ptr 2 0), (5, AV.ptr 3 0)] [(0, .cells [Lz v0, Iz v29]), (2, c_made_Dice_Policy ), (3, .cells [AV.slc 4 0 1 v30.length false, AV.lst true true (List.map (AV.int .i64) ([] : List Int)), Iz v11]), (4, .grow (List.map (AV.int .i64) v30))] 5 (by simp [h10, h10_]) (by simp [h10, h10_]) (by simp) ?_
   refine Can.freeze 4 (o := .grow (List.map (AV.int .i64) v30)) (by simp [h10, h10_]) rfl [] [(3, .cells [Lz v30, AV.lst true true (List.map (AV.int .i64) ([] : List Int)), Iz v11])] trivial ⟨⟨by simp, AObj.cells [AV.slc 4 0 1 v30.length false, AV.lst true true (List.map (AV.int .i64) ([] : List Int)), Iz v11], by simp [h10, h10_], (.mk (.cons (.l (by simp) (by simp) (by simp) (by simp)) (.cons (.same _) (.cons (.same _) .nil))))⟩, trivial⟩ ?_
   refine Can.ren (m := 1) h0 [(0, 0), (1, 2), (2, 3)] [(0, AV.ptr 0 0), (4, AV.ptr 1 0), (5, AV.ptr 2 0)] [(0, .cells [Lz v0, Iz v29]), (1, c_made_Dice_Policy ), (2, .cells [Lz v30, AV.lst true true (List.map (AV.int .i64) ([] : List Int)), Iz v11])] 3 (by decide) (by decide) (by decide) rfl (by simp [h10, h10_]) (by simp [h10, h10_]) ?_
   exact JN ((v29, v30)) hF (by simp [h10, h10_]) (by simp [h10, h10_])
  ·replace hF := ite_f h10 hF
   have h10_ := h10
   try simp at h10_
   refine CF (by simp [h10, h10_] <;> omega) ?_
   refine AW.skip ?_
   refine hK170 _ _ _ ?_
   refine Can.ren (m := 1) h0 [(0, 0), (1, 2), (2, 3)] [(0, AV.ptr 0 0), (4, AV.ptr 1 0), (5, AV.ptr 2 0)] [(0, .cells [Lz v0, Iz v27]), (1, c_made_Dice_Policy ), (2, .cells [AV.lst false true (List.map (AV.int .i64) ([v9] : List Int)), AV.lst true true (List.map (AV.int .i64) ([] : List Int)), Iz v11])] 3 (by decide) (by decide) (by decide) rfl (by simp [h10, h10_]) (by simp [h10, h10_]) ?_
   refine Can.flg [] [(2, .cells [Lz ([v9] : List Int), AV.lst true true (List.map (AV.int .i64) ([] : List Int)), Iz v11])] trivial ⟨⟨AObj.cells [AV.lst false true (List.map (AV.int .i64) ([v9] : List Int)), AV.lst true true (List.map (AV.int .i64) ([] : List Int)), Iz v11], by simp [h10, h10_], (.mk (.cons (.lst (by simp)) (.cons (.same _) (.cons (.same _) .nil))))⟩, trivial⟩ (by simp) ?_
   exact JN ((v27, ([v9] : List Int))) hF (by simp [h10, h10_]) (by simp [h10, h10_])
 ·rintro ⟨v13, v14⟩ hF
  try dsimp only at hF
  unfold made_Dice_Policy.J1 at hF
  refine SQ [] [none, none, none, none, none] fun _ _ g r => ?_
  try simp
  and_intros
  try any_goals first | omega | (simp [maxLen] <;> omega)
  obtain ⟨v15, v16, h3, hF⟩ := bnd2_elim hF
  refine aCall_l (w_made_Dice_Of k _ _ _ _ _ h3) (by simp) [0] [] [0] rfl (.cons (.same (by simp)) (.cons (Coe.fl (by simp)) .nil)) (by simp) (by decide) (by simp) (by simp) (.inl rfl) (by simp) (by simp) ?_
  try simp
  and_intros <;> first | exact g _ (by kernel_rfl) | refine r _ _ _ ?_ | omega | (simp [maxLen] <;> omega)
  refine WK [(0, AV.ptr 0 0), (4, AV.ptr 1 0), (5, AV.ptr 2 0), (6, Iz (IntKind.wrap .i64 (1 + v15)))] [(0, .cells [Lz v0, Iz v16]), (1, c_made_Dice_Policy ), (2, .cells [Lz v14, AV.lst true true (List.map (AV.int .i64) ([] : List Int)), Iz v11])] 3 (by simp) (by simp) ?_
  refine AW.seq fun K130 hK130 => ?_
  refine SQ [] [none, none, none, none] fun _ _ g r => ?_
  try simp
  and_intros
  try any_goals first | omega | (simp [maxLen] <;> omega)
  obtain ⟨v17, v18, h4, hF⟩ := bnd2_elim hF
  refine aCall_l (w_made_Dice_Next k _ _ _ _ _ h4) (by simp) [0] [] [0] rfl (.cons (.same (by simp)) (.cons (.same (by simp)) .nil)) (by simp) (by decide) (by simp) (by simp) (.inl rfl) (by simp) (by simp) ?_
  try simp
  and_intros <;> first | exact g _ (by kernel_rfl) | refine r _ _ _ ?_ | omega | (simp [maxLen] <;> omega)
  refine WK [(0, AV.ptr 0 0), (4, AV.ptr 1 0), (5, AV.ptr 2 0), (6, Iz (IntKind.wrap .i64 (1 + v15))), (7, Iz (IntKind.wrap .i64 (1 + v17)))] [(0, .cells [Lz v0, Iz v18]), (1, c_made_Dice_Policy ), (2, .cells [Lz v14, AV.lst true true (List.map (AV.int .i64) ([] : List Int)), Iz v11])] 3 (by simp) (by simp) ?_
  refine AW.block ?_
  refine AW.ownC 1 1 1 true (cs := [AV.lst true true (List.map (AV.int .i64) ([] : List Int)), AV.lst true true (List.map (AV.int .i64) ([] : List Int)), Iz 0]) (by simp) (by simp) ?_
  refine AW.ownC 2 1 1 true (cs := [Lz v14, AV.lst true true (List.map (AV.int .i64) ([] : List Int)), Iz v11]) (by simp) (by simp) ?_
  refine AW.rnm (m := 1) h0 [(0, 0), (1, 1), (2, 3), (3, 2), (4, 4)] [(0, AV.ptr 0 0), (4, AV.ptr 1 0), (5, AV.ptr 3 0), (6, Iz (IntKind.wrap .i64 (1 + v15))), (7, Iz (IntKind.wrap .i64 (1 + v17)))] [(0, .cells [Lz v0, Iz v18]), (1, c_made_Dice_Policy1 ), (2, .grow (List.map (AV.int .i64) ([] : List Int))), (3, .cells [Lz v14, AV.slc 4 0 1 (([] : List Int).length) false, Iz v11]), (4, .grow (List.map (AV.int .i64) ([] : List Int)))] 5 (by decide) (by decide) (by decide) rfl (by simp) (by simp) ?_
  refine AW.loopF (α := (Int × Int × Int × (List Int))) (fun n (v19, v20, v21, v22) => made_Dice_Policy.L2 k v0 v11 v14 n v19 v20 v21 v22 = some (v5, v6, v7, v8)) (fun (v19, v20, v21, v22) => [(0, AV.ptr 0 0), (4, AV.ptr 1 0), (5, AV.ptr 3 0), (6, Iz v19), (7, Iz v20)]) (fun (v19, v20, v21, v22) => [(0, .cells [Lz v0, Iz v21]), (1, c_made_Dice_Policy1 ), (2, .grow (List.map (AV.int .i64) ([] : List Int))), (3, .cells [Lz v14, AV.slc 4 0 1 v22.length false, Iz v11]), (4, .grow (List.map (AV.int .i64) v22))]) 5 k ((IntKind.wrap .i64 (1 + v15), IntKind.wrap .i64 (1 + v17), v18, ([] : List Int))) hF (by simp) (by simp) (by simp) ?_
  rintro (_|n2) ⟨v19, v20, v21, v22⟩ hF K159 hK159
  ·try dsimp only at hF
   rw [made_Dice_Policy.L2] at hF; cases hF
  try dsimp only at hF
  rw [made_Dice_Policy.L2] at hF
  refine AW.seq fun K161 hK161 => ?_
  refine SQ [] [none, none] fun _ _ g r => ?_
  try simp
  and_intros <;> first | exact g _ (by kernel_rfl) | refine r _ _ _ ?_ | omega | (simp [maxLen] <;> omega)
  refine WK [(0, AV.ptr 0 0), (4, AV.ptr 1 0), (5, AV.ptr 3 0), (6, Iz v19), (7, Iz v20), (35, AV.bool (decide (0 < v20)))] [(0, .cells [Lz v0, Iz v21]), (1, c_made_Dice_Policy1 ), (2, .grow (List.map (AV.int .i64) ([] : List Int))), (3, .cells [Lz v14, AV.slc 4 0 1 v22.length false, Iz v11]), (4, .grow (List.map (AV.int .i64) v22))] 5 (by simp) (by simp) ?_
  by_cases h5 : 0 < v20
  ·replace hF := ite_t h5 hF
   have h5_ := h5
   try simp at h5_
   refine CT (by simp [h5, h5_] <;> omega) ?_
   refine AW.skip ?_
   refine hK161 _ _ _ ?_
   refine AW.seq fun K165 hK165 => ?_
   refine AW.block ?_
   refine SQ [] [none, none, none, none, none, none, none] fun _ _ g r => ?_
   obtain ⟨h6, hF⟩ := chk_elim hF
   have h6_ := h6
   try simp at h6_
   have F1 := And.intro h5 (And.intro h5_ h6)
   try simp [F1]
   and_intros <;> first | exact g _ (by kernel_rfl) | refine r _ _ _ ?_ | omega | (simp [maxLen, F1] <;> omega)
   refine WK [(0, AV.ptr 0 0), (4, AV.ptr 1 0), (5, AV.ptr 3 0), (6, Iz v19), (7, Iz v20)] [(0, .cells [Lz v0, Iz v21]), (1, c_made_Dice_Policy1 ), (2, .grow (List.map (AV.int .i64) ([] : List Int))), (3, .cells [Lz v14, AV.slc 5 0 1 ((v22 ++ ([v19] : List Int)).length) false, Iz v11]), (5, .grow (List.map (AV.int .i64) (v22 ++ ([v19] : List Int))))] 6 (by simp [F1]) (by simp [F1] <;> omega) ?_
   refine RG [] [none, none, none, none, none, none] fun _ _ g r => ?_
   try simp [F1]
   and_intros
   try any_goals first | omega | (simp [maxLen, F1] <;> omega)
   obtain ⟨v23, v24, h7, hF⟩ := bnd2_elim hF
   refine aCall_l (w_made_Dice_Next k _ _ _ _ _ h7) (by simp) [0] [] [0] rfl (.cons (.same (by simp [F1])) (.cons (.same (by simp [F1])) .nil)) (by simp [F1]) (by decide) (by simp) (by simp) (.inl rfl) (by simp) (by simp) ?_
   obtain ⟨v25, h8, hF⟩ := let1_elim hF
   have h8_ := h8
   try simp at h8_
   have F2 := And.intro F1 (And.intro h8 h8_)
   try simp [F2]
   and_intros <;> first | exact g _ (by kernel_rfl) | refine r _ _ _ ?_ | omega | (simp [maxLen, F2] <;> omega)
   refine hK165 _ _ _ ?_
   refine WK [(0, AV.ptr 0 0), (4, AV.ptr 1 0), (5, AV.ptr 3 0), (6, Iz v25), (7, Iz v20)] [(0, .cells [Lz v0, Iz v24]), (1, c_made_Dice_Policy1 ), (2, .grow (List.map (AV.int .i64) ([] : List Int))), (3, .cells [Lz v14, AV.slc 5 0 1 ((v22 ++ ([v19] : List Int)).length) false, Iz v11]), (5, .grow (List.map (AV.int .i64) (v22 ++ ([v19] : List Int))))] 6 (by simp [F2]) (by simp [F2] <;> omega) ?_
   refine RG [] [none, none, none] fun _ _ g r => ?_
   try simp [F2]
   and_intros <;> first | exact g _ (by kernel_rfl) | refine r _ _ _ ?_ | omega | (simp [maxLen, F2] <;> omega)
   refine hK159 _ _ _ ?_
   refine Can.weak [(0, AV.ptr 0 0), (4, AV.ptr 1 0), (5, AV.ptr 3 0), (6, Iz v25), (7, Iz (IntKind.wrap .i64 (v20 - 1)))] [(0, .cells [Lz v0, Iz v24]), (1, c_made_Dice_Policy1 ), (2, .grow (List.map (AV.int .i64) ([] : List Int))), (3, .cells [Lz v14, AV.slc 5 0 1 ((v22 ++ ([v19] : List Int)).length) false, Iz v11]), (5, .grow (List.map (AV.int .i64) (v22 ++ ([v19] : List Int))))] 6 (by simp [F2]) (by simp [F2] <;> omega) (by simp) ?_
   refine Can.ren (m := 1) h0 [(0, 0), (1, 1), (2, 2), (3, 3), (4, 5)] [(0, AV.ptr 0 0), (4, AV.ptr 1 0), (5, AV.ptr 3 0), (6, Iz v25), (7, Iz (IntKind.wrap .i64 (v20 - 1)))] [(0, .cells [Lz v0, Iz v24]), (1, c_made_Dice_Policy1 ), (2, .grow (List.map (AV.int .i64) ([] : List Int))), (3, .cells [Lz v14, AV.slc 4 0 1 ((v22 ++ ([v19] : List Int)).length) false, Iz v11]), (4, .grow (List.map (AV.int .i64) (v22 ++ ([v19] : List Int))))] 5 (by decide) (by decide) (by decide) rfl (by simp [F2]) (by simp [F2]) ?_
   exact NX (k' := n2) ((v25, IntKind.wrap .i64 (v20 - 1), v24, v22 ++ ([v19] : List Int))) hF (by simp [F2]) (by simp [F2])
  ·replace hF := ite_f h5 hF
   have h5_ := h5
   try simp at h5_
   refine CF (by simp [h5, h5_] <;> omega) ?_
   refine AW.exit ?_
   try simp
   refine hK130 _ _ _ ?_
   refine SQ [] [none, none] fun _ _ g r => ?_
   try simp [h5, h5_]
   and_intros <;> first | exact g _ (by kernel_rfl) | refine r _ _ _ ?_ | omega | (simp [h5, h5_, maxLen] <;> omega)
   refine WK [(4, AV.ptr 1 0)] [(0, .cells [Lz v0, Iz v21]), (1, .cells [Lz v14, AV.slc 4 0 1 v22.length false, Iz v11]), (4, .grow (List.map (AV.int .i64) v22))] 5 (by simp [h5, h5_]) (by simp [h5, h5_]) ?_
   refine AW.rnm (m := 1) h0 [(0, 0), (1, 4), (2, 1)] [(4, AV.ptr 2 0)] [(0, .cells [Lz v0, Iz v21]), (1, .grow (List.map (AV.int .i64) v22)), (2, .cells [Lz v14, AV.slc 1 0 1 v22.length false, Iz v11])] 3 (by decide) (by decide) (by decide) rfl (by simp [h5, h5_]) (by simp [h5, h5_]) ?_
   simp only [Option.some.injEq, Prod.mk.injEq] at hF
   obtain ⟨e0, e1, e2, e3⟩ := hF
   subst e0 e1 e2 e3
   refine AW.ret (hQ _ _ _ ?_ (matchO_0 ?_)).1
   ·simp [Try.f16, h5, h5_]
   ·simp [h5, h5_]
theorem w_made_Dice_Some (k : Nat) (v0 : (List Int)) (v1 : Int) (v2 : Int) (v3 : (List Int)) (v4 : Int) (hF : made_Dice_Some k v0 v1 v2 = some (v3, v4)) :
  FCall Try.prog 17 [AV.ptr 0 0, AV.int .i64 v2] [.cells [AV.lst false false (List.map (AV.int .i64) v0), AV.int .i64 v1]] (AV.slc 1 0 1 v3.length false) [some (.cells [AV.lst false false (List.map (AV.int .i64) v0), AV.int .i64 v4]), some (.grow (List.map (AV.int .i64) v3))] := by
 unfold made_Dice_Some at hF
 refine EN Try.func17 ?_
 intro c0 w0 Q h0 hQ
 refine WK [(0, AV.ptr 0 0), (1, Iz v2)] [(0, .cells [Lz v0, Iz v1])] 1 (by simp) (by simp) ?_
 refine SQ [] [none] fun _ _ g r => ?_
 try simp
 and_intros <;> first | exact g _ (by kernel_rfl) | refine r _ _ _ ?_ | omega | (simp [maxLen] <;> omega)
 refine WK [(0, AV.ptr 0 0), (1, Iz v2)] [(0, .cells [Lz v0, Iz v1])] 1 (by simp) (by simp) ?_
 refine SQ [] [none] fun _ _ g r => ?_
 try simp
 and_intros <;> first | exact g _ (by kernel_rfl) | refine r _ _ _ ?_ | omega | (simp [maxLen] <;> omega)
 refine WK [(0, AV.ptr 0 0), (1, Iz v2), (5, AV.lst true true (List.map (AV.int .i64) ([] : List Int)))] [(0, .cells [Lz v0, Iz v1])] 1 (by simp) (by simp) ?_
 refine AW.seq fun K121 hK121 => ?_
 refine SQ [] [none] fun _ _ g r => ?_
 try simp
 and_intros <;> first | exact g _ (by kernel_rfl) | refine r _ _ _ ?_ | omega | (simp [maxLen] <;> omega)
 refine WK [(0, AV.ptr 0 0), (1, Iz v2), (5, AV.lst true true (List.map (AV.int .i64) ([] : List Int))), (6, Iz 0)] [(0, .cells [Lz v0, Iz v1])] 1 (by simp) (by simp) ?_
 refine AW.block ?_
 refine AW.own' 5 1 true (by simp) (by decide) ?_
 refine AW.loopF (α := (Int × Int × (List Int))) (fun n (v5, v6, v7) => made_Dice_Some.L1 k v0 v2 n v5 v6 v7 = some (v3, v4)) (fun (v5, v6, v7) => [(0, AV.ptr 0 0), (1, Iz v2), (5, AV.slc 1 0 1 v7.length false), (6, Iz v5)]) (fun (v5, v6, v7) => [(0, .cells [Lz v0, Iz v6]), (1, .grow (List.map (AV.int .i64) v7))]) 2 k ((0, v1, ([] : List Int))) hF (by simp) (by simp) (by simp) ?_
 rintro (_|n1) ⟨v5, v6, v7⟩ hF K150 hK150
 ·try dsimp only at hF
  rw [made_Dice_Some.L1] at hF; cases hF
 try dsimp only at hF
 rw [made_Dice_Some.L1] at hF
 refine AW.seq fun K152 hK152 => ?_
 refine SQ [] [none, none, none] fun _ _ g r => ?_
 try simp
 and_intros <;> first | exact g _ (by kernel_rfl) | refine r _ _ _ ?_ | omega | (simp [maxLen] <;> omega)
 refine WK [(0, AV.ptr 0 0), (1, Iz v2), (5, AV.slc 1 0 1 v7.length false), (6, Iz v5), (9, AV.bool (decide (v5 < v2)))] [(0, .cells [Lz v0, Iz v6]), (1, .grow (List.map (AV.int .i64) v7))] 2 (by simp) (by simp) ?_
 by_cases h1 : v5 < v2
 ·replace hF := ite_t h1 hF
  have h1_ := h1
  try simp at h1_
  refine CT (by simp [h1, h1_] <;> omega) ?_
  refine AW.skip ?_
  refine hK152 _ _ _ ?_
  refine AW.midF (α := (Int × (List Int))) (fun (v8, v9) => made_Dice_Some.J2 k v5 (fun v5_ v6_ v7_ => made_Dice_Some.L1 k v0 v2 n1 v5_ v6_ v7_) v8 v9 = some (v3, v4)) (fun (v8, v9) => [(0, AV.ptr 0 0), (1, Iz v2), (5, AV.slc 1 0 1 v9.length false), (6, Iz v5)]) (fun (v8, v9) => [(0, .cells [Lz v0, Iz v8]), (1, .grow (List.map (AV.int .i64) v9))]) 2 (fun K157 hK157 => ?_) ?_
  ·refine AW.block ?_
   refine SQ [] [none, none, none] fun _ _ g r => ?_
   try simp [h1, h1_]
   and_intros
   try any_goals first | omega | (simp [h1, h1_, maxLen] <;> omega)
   obtain ⟨v10, v11, h2, hF⟩ := bnd2_elim hF
   refine aCall_l (w_made_Dice_Next k _ _ _ _ _ h2) (by simp) [0] [] [0] rfl (.cons (.same (by simp [h1, h1_])) (.cons (.same (by simp [h1, h1_])) .nil)) (by simp [h1, h1_]) (by decide) (by simp) (by simp) (.inl rfl) (by simp) (by simp) ?_
   try simp [h1, h1_]
   and_intros <;> first | exact g _ (by kernel_rfl) | refine r _ _ _ ?_ | omega | (simp [h1, h1_, maxLen] <;> omega)
   refine WK [(0, AV.ptr 0 0), (1, Iz v2), (5, AV.slc 1 0 1 v7.length false), (6, Iz v5), (14, AV.bool (v10 == 0))] [(0, .cells [Lz v0, Iz v11]), (1, .grow (List.map (AV.int .i64) v7))] 2 (by simp [h1, h1_]) (by simp [h1, h1_]) ?_
   by_cases h3 : v10 = 0
   ·replace hF := ite_t h3 hF
    have h3q : v10 = 0 := h3
    have h3_ := eqb_t h3q
    have h3__ := neb_f h3q
    refine CT (by simp [h1, h1_, h3_, h3__, h3q] <;> omega) ?_
    refine RG [] [none, none, none, none, none] fun _ _ g r => ?_
    obtain ⟨h4, hF⟩ := chk_elim hF
    have h4_ := h4
    try simp at h4_
    have F1 := And.intro h1 (And.intro h1_ (And.intro h3_ (And.intro h3__ (And.intro h3q h4))))
    try simp [F1]
    and_intros <;> first | exact g _ (by kernel_rfl) | refine r _ _ _ ?_ | omega | (simp [maxLen, F1] <;> omega)
    refine hK157 _ _ _ ?_
    refine Can.weak [(0, AV.ptr 0 0), (1, Iz v2), (5, AV.slc 2 0 1 ((v7 ++ ([v5] : List Int)).length) false), (6, Iz v5)] [(0, .cells [Lz v0, Iz v11]), (2, .grow (List.map (AV.int .i64) (v7 ++ ([v5] : List Int))))] 3 (by simp [F1] <;> omega) (by simp [F1]) (by simp) ?_
    refine Can.ren (m := 1) h0 [(0, 0), (1, 2)] [(0, AV.ptr 0 0), (1, Iz v2), (5, AV.slc 1 0 1 ((v7 ++ ([v5] : List Int)).length) false), (6, Iz v5)] [(0, .cells [Lz v0, Iz v11]), (1, .grow (List.map (AV.int .i64) (v7 ++ ([v5] : List Int))))] 2 (by decide) (by decide) (by decide) rfl (by simp [F1]) (by simp [F1]) ?_
    exact JN ((v11, v7 ++ ([v5] : List Int))) hF (by simp [F1]) (by simp [F1])
   ·replace hF := ite_f h3 hF
    have h3_ := eqb_f h3
    have h3__ := neb_t h3
    have F2 := And.intro h1 (And.intro h1_ (And.intro h3 (And.intro h3_ h3__)))
    refine CF (by simp [F2] <;> omega) ?_
    refine AW.skip ?_
    refine hK157 _ _ _ ?_
    exact JN ((v11, v7)) hF (by simp [F2]) (by simp [F2])
  ·rintro ⟨v8, v9⟩ hF
   try dsimp only at hF
   unfold made_Dice_Some.J2 at hF
   refine RG [] [none, none, none] fun _ _ g r => ?_
   try simp [h1, h1_]
   and_intros <;> first | exact g _ (by kernel_rfl) | refine r _ _ _ ?_ | omega | (simp [h1, h1_, maxLen] <;> omega)
   refine hK150 _ _ _ ?_
   exact NX (k' := n1) ((IntKind.wrap .i64 (v5 + 1), v8, v9)) hF (by simp [h1, h1_]) (by simp [h1, h1_])
 ·replace hF := ite_f h1 hF
  have h1_ := h1
  try simp at h1_
  refine CF (by simp [h1, h1_] <;> omega) ?_
  refine AW.exit ?_
  try simp
  refine hK121 _ _ _ ?_
  refine SQ [] [none, none] fun _ _ g r => ?_
  try simp [h1, h1_]
  and_intros <;> first | exact g _ (by kernel_rfl) | refine r _ _ _ ?_ | omega | (simp [h1, h1_, maxLen] <;> omega)
  refine WK [(4, AV.slc 1 0 1 v7.length false)] [(0, .cells [Lz v0, Iz v6]), (1, .grow (List.map (AV.int .i64) v7))] 2 (by simp [h1, h1_]) (by simp [h1, h1_]) ?_
  simp only [Option.some.injEq, Prod.mk.injEq] at hF
  obtain ⟨e0, e1⟩ := hF
  subst e0 e1
  refine AW.ret (hQ _ _ _ ?_ (matchO_0 ?_)).1
  ·simp [Try.f17, h1, h1_]
  ·simp [h1, h1_]
abbrev c_ref11_Level  : AObj := .cells [Iz 0, AV.slc 2 0 3 (([] : List api_Edge).length) false, AV.lst true true (List.map (AV.int .i64) ([] : List Int))]
abbrev c_ref11_Level1  : AObj := .cells [Iz 0, AV.lst true true (List.map api_Edge.av ([] : List api_Edge)), AV.lst true true (List.map (AV.int .i64) ([] : List Int))]
theorem w_ref11_Level (k : Nat) (v0 : Int) (v1 : (List api_Edge)) (v2 : (List Int)) (v3 : Int) (v4 : Int) (v5 : (List api_Edge)) (v6 : (List Int)) (hF : ref11_Level k v0 v1 v2 v3 = some (v4, v5, v6)) :
  FCall Try.prog 54 [AV.agg [AV.int .i64 v0, AV.lst false false (List.map api_Edge.av v1), AV.lst false false (List.map (AV.int .i64) v2)], AV.int .i64 v3] [] (AV.agg [AV.int .i64 v4, AV.slc 0 0 3 v5.length false, AV.lst false false (List.map (AV.int .i64) v6)]) [some (.grow (flatA (List.map api_Edge.av v5)))] := by
 unfold ref11_Level at hF
 refine EN Try.func54 ?_
 intro c0 w0 Q h0 hQ
 refine WK [(0, AV.agg [Iz v0, AV.lst false false (List.map api_Edge.av v1), Lz v2]), (1, Iz v3)] [] 0 (by simp) (by simp) ?_
 refine SQ [] [none, none] fun _ _ g r => ?_
 try simp
 and_intros <;> first | exact g _ (by kernel_rfl) | refine r _ _ _ ?_ | omega | (simp [maxLen] <;> omega)
 refine WK [(1, Iz v3), (2, AV.ptr 0 0), (4, AV.ptr 1 0)] [(0, .cells [Iz v0, AV.lst false false (List.map api_Edge.av v1), Lz v2]), (1, c_ref11_Level1 )] 2 (by simp) (by simp) ?_
 refine SQ [] [none, none, none, none] fun _ _ g r => ?_
 try simp
 and_intros
 try any_goals first | omega | (simp [maxLen] <;> omega)
 obtain ⟨v7, v8, v9, h1, hF⟩ := bnd3_elim hF
 refine AC (w_ref11_Copy_o k _ _ _ _ _ _ h1) (.cons (.same (by simp)) .nil) ?_
 try simp
 and_intros <;> first | exact g _ (by kernel_rfl) | refine r _ _ _ ?_ | omega | (simp [maxLen] <;> omega)
 refine WK [(1, Iz v3), (2, AV.ptr 0 0), (4, AV.ptr 1 0), (5, AV.ptr 4 0)] [(0, .cells [Iz v0, AV.lst false false (List.map api_Edge.av v1), Lz v2]), (1, c_ref11_Level1 ), (2, .grow (flatA (List.map api_Edge.av v8))), (3, .grow (List.map (AV.int .i64) v9)), (4, .cells [Iz v7, AV.slc 2 0 3 v8.length false, AV.slc 3 0 1 v9.length false])] 5 (by simp) (by simp) ?_
 refine AW.frz 3 (o := .grow (List.map (AV.int .i64) v9)) (by simp) rfl [] [(4, .cells [Iz v7, AV.slc 2 0 3 v8.length false, Lz v9])] trivial ⟨⟨by simp, AObj.cells [Iz v7, AV.slc 2 0 3 v8.length false, AV.slc 3 0 1 v9.length false], by simp, (.mk (.cons (.same _) (.cons (.same _) (.cons (.l (by simp) (by simp) (by simp) (by simp)) .nil))))⟩, trivial⟩ ?_
 refine WK [(1, Iz v3), (2, AV.ptr 0 0), (4, AV.ptr 1 0), (5, AV.ptr 4 0)] [(0, .cells [Iz v0, AV.lst false false (List.map api_Edge.av v1), Lz v2]), (1, c_ref11_Level1 ), (2, .grow (flatA (List.map api_Edge.av v8))), (4, .cells [Iz v7, AV.slc 2 0 3 v8.length false, Lz v9])] 5 (by simp) (by simp) ?_
 refine SQ [] [none, none] fun _ _ g r => ?_
 try simp
 and_intros <;> first | exact g _ (by kernel_rfl) | refine r _ _ _ ?_ | omega | (simp [maxLen] <;> omega)
 refine WK [(1, Iz v3), (2, AV.ptr 0 0), (4, AV.ptr 1 0), (5, AV.ptr 4 0)] [(0, .cells [Iz v0, AV.lst false false (List.map api_Edge.av v1), Lz v2]), (1, c_ref11_Level1 ), (4, .cells [Iz v7, AV.lst true true (List.map api_Edge.av ([] : List api_Edge)), Lz v9])] 5 (by simp) (by simp) ?_
 refine AW.seq fun K123 hK123 => ?_
 refine SQ [] [none] fun _ _ g r => ?_
 try simp
 and_intros <;> first | exact g _ (by kernel_rfl) | refine r _ _ _ ?_ | omega | (simp [maxLen] <;> omega)
 refine WK [(1, Iz v3), (2, AV.ptr 0 0), (4, AV.ptr 1 0), (5, AV.ptr 4 0), (6, Iz 0)] [(0, .cells [Iz v0, AV.lst false false (List.map api_Edge.av v1), Lz v2]), (1, c_ref11_Level1 ), (4, .cells [Iz v7, AV.lst true true (List.map api_Edge.av ([] : List api_Edge)), Lz v9])] 5 (by simp) (by simp) ?_
 refine AW.block ?_
 refine AW.ownC 1 1 3 true (cs := [Iz 0, AV.lst true true (List.map api_Edge.av ([] : List api_Edge)), AV.lst true true (List.map (AV.int .i64) ([] : List Int))]) (by simp) (by simp) ?_
 refine AW.ownC 4 1 3 true (cs := [Iz v7, AV.lst true true (List.map api_Edge.av ([] : List api_Edge)), Lz v9]) (by simp) (by simp) ?_
 refine RM h0 [(0, 0), (1, 1), (2, 5), (3, 4), (4, 6)] [(1, Iz v3), (2, AV.ptr 0 0), (4, AV.ptr 1 0), (5, AV.ptr 3 0), (6, Iz 0)] [(0, .cells [Iz v0, AV.lst false false (List.map api_Edge.av v1), Lz v2]), (1, c_ref11_Level ), (2, .grow (flatA (List.map api_Edge.av ([] : List api_Edge)))), (3, .cells [Iz v7, AV.slc 4 0 3 (([] : List api_Edge).length) false, Lz v9]), (4, .grow (flatA (List.map api_Edge.av ([] : List api_Edge))))] 5 (by simp) (by simp) ?_
 refine AW.loopF (α := (Int × (List api_Edge))) (fun n (v10, v11) => ref11_Level.L1 k v1 v3 v7 v9 n v10 v11 = some (v4, v5, v6)) (fun (v10, v11) => [(1, Iz v3), (2, AV.ptr 0 0), (4, AV.ptr 1 0), (5, AV.ptr 3 0), (6, Iz v10)]) (fun (v10, v11) => [(0, .cells [Iz v0, AV.lst false false (List.map api_Edge.av v1), Lz v2]), (1, c_ref11_Level ), (2, .grow (flatA (List.map api_Edge.av ([] : List api_Edge)))), (3, .cells [Iz v7, AV.slc 4 0 3 v11.length false, Lz v9]), (4, .grow (flatA (List.map api_Edge.av v11)))]) 5 k ((0, ([] : List api_Edge))) hF (by simp) (by simp) (by simp) ?_
 rintro (_|n1) ⟨v10, v11⟩ hF K152 hK152
 ·try dsimp only at hF
  rw [ref11_Level.L1] at hF; cases hF
 try dsimp only at hF
 rw [ref11_Level.L1] at hF
 refine AW.seq fun K154 hK154 => ?_
 refine SQ [] [none, none, none, none, none] fun _ _ g r => ?_
 try simp
 and_intros <;> first | exact g _ (by kernel_rfl) | refine r _ _ _ ?_ | omega | (simp [maxLen] <;> omega)
 refine WK [(1, Iz v3), (2, AV.ptr 0 0), (4, AV.ptr 1 0), (5, AV.ptr 3 0), (6, Iz v10), (14, AV.bool (decide (v10 < (v1.length : Int))))] [(0, .cells [Iz v0, AV.lst false false (List.map api_Edge.av v1), Lz v2]), (1, c_ref11_Level ), (2, .grow (flatA (List.map api_Edge.av ([] : List api_Edge)))), (3, .cells [Iz v7, AV.slc 4 0 3 v11.length false, Lz v9]), (4, .grow (flatA (List.map api_Edge.av v11)))] 5 (by simp) (by simp) ?_
 by_cases h2 : v10 < (v1.length : Int)
 ·replace hF := ite_t h2 hF
  have h2_ := h2
  try simp at h2_
  refine CT (by simp [h2, h2_] <;> omega) ?_
  refine AW.skip ?_
  refine hK154 _ _ _ ?_
  refine AW.midF (α := (List api_Edge)) (fun v12 => ref11_Level.J2 k v10 (fun v10_ v11_ => ref11_Level.L1 k v1 v3 v7 v9 n1 v10_ v11_) v12 = some (v4, v5, v6)) (fun v12 => [(1, Iz v3), (2, AV.ptr 0 0), (4, AV.ptr 1 0), (5, AV.ptr 3 0), (6, Iz v10)]) (fun v12 => [(0, .cells [Iz v0, AV.lst false false (List.map api_Edge.av v1), Lz v2]), (1, c_ref11_Level ), (2, .grow (flatA (List.map api_Edge.av ([] : List api_Edge)))), (3, .cells [Iz v7, AV.slc 4 0 3 v12.length false, Lz v9]), (4, .grow (flatA (List.map api_Edge.av v12)))]) 5 (fun K159 hK159 => ?_) ?_
  ·refine AW.block ?_
   refine SQ [] [none, none, none, none, none, none, none, none] fun _ _ g r => ?_
   obtain ⟨v13, h3, h4, h5, hF⟩ := idx_elim hF
   have h5_ := get_of h5
   try simp at h5_
   have h4_ := h4
   try simp at h4_
   have F1 := And.intro h2 (And.intro h2_ (And.intro h3 (And.intro h4 (And.intro h5 (And.intro h5_ h4_)))))
   try simp [F1]
   and_intros <;> first | exact g _ (by kernel_rfl) | refine r _ _ _ ?_ | omega | (simp [maxLen, F1] <;> omega)
   refine WK [(1, Iz v3), (2, AV.ptr 0 0), (4, AV.ptr 1 0), (5, AV.ptr 3 0), (6, Iz v10), (24, AV.bool (decide (v3 ≤ v13.Level)))] [(0, .cells [Iz v0, AV.lst false false (List.map api_Edge.av v1), Lz v2]), (1, c_ref11_Level ), (2, .grow (flatA (List.map api_Edge.av ([] : List api_Edge)))), (3, .cells [Iz v7, AV.slc 4 0 3 v11.length false, Lz v9]), (4, .grow (flatA (List.map api_Edge.av v11)))] 5 (by simp [F1]) (by simp [F1]) ?_
   by_cases h6 : v3 ≤ v13.Level
   ·replace hF := ite_t h6 hF
    have h6_ := h6
    try simp at h6_
    have F2 := And.intro F1 (And.intro h6 h6_)
    refine CT (by simp [F2] <;> omega) ?_
    refine RG [] [none, none, none, none, none, none, none, none, none, none, none] fun _ _ g r => ?_
    obtain ⟨h7, hF⟩ := chk_elim hF
    have h7_ := h7
    try simp at h7_
    have F3 := And.intro F2 h7
    try simp [F3]
    and_intros <;> first | exact g _ (by kernel_rfl) | refine r _ _ _ ?_ | omega | (simp [maxLen, F3] <;> omega)
    refine hK159 _ _ _ ?_
    refine RN h0 [(0, 0), (1, 1), (2, 2), (3, 3), (4, 5)] [(1, Iz v3), (2, AV.ptr 0 0), (4, AV.ptr 1 0), (5, AV.ptr 3 0), (6, Iz v10)] [(0, .cells [Iz v0, AV.lst false false (List.map api_Edge.av v1), Lz v2]), (1, c_ref11_Level ), (2, .grow (flatA (List.map api_Edge.av ([] : List api_Edge)))), (3, .cells [Iz v7, AV.slc 4 0 3 ((v11 ++ ([v13] : List api_Edge)).length) false, Lz v9]), (4, .grow (flatA (List.map api_Edge.av (v11 ++ ([v13] : List api_Edge)))))] 5 (by simp [F3]) (by simp [F3] <;> omega) ?_
    exact JN (v11 ++ ([v13] : List api_Edge)) hF (by simp [F3]) (by simp [F3])
   ·replace hF := ite_f h6 hF
    have h6_ := h6
    try simp at h6_
    have F4 := And.intro F1 (And.intro h6 h6_)
    refine CF (by simp [F4] <;> omega) ?_
    refine AW.skip ?_
    refine hK159 _ _ _ ?_
    exact JN (v11) hF (by simp [F4]) (by simp [F4])
  ·rintro v12 hF
   try dsimp only at hF
   unfold ref11_Level.J2 at hF
   refine RG [] [none, none, none] fun _ _ g r => ?_
   try simp [h2, h2_]
   and_intros <;> first | exact g _ (by kernel_rfl) | refine r _ _ _ ?_ | omega | (simp [h2, h2_, maxLen] <;> omega)
   refine hK152 _ _ _ ?_
   exact NX (k' := n1) ((IntKind.wrap .i64 (v10 + 1), v12)) hF (by simp [h2, h2_]) (by simp [h2, h2_])
 ·replace hF := ite_f h2 hF
  have h2_ := h2
  try simp at h2_
  refine CF (by simp [h2, h2_] <;> omega) ?_
  refine AW.exit ?_
  try simp
  refine hK123 _ _ _ ?_
  refine SQ [] [none, none] fun _ _ g r => ?_
  try simp [h2, h2_]
  and_intros <;> first | exact g _ (by kernel_rfl) | refine r _ _ _ ?_ | omega | (simp [h2, h2_, maxLen] <;> omega)
  refine RM h0 [(0, 4), (1, 1)] [(4, AV.ptr 1 0)] [(0, .grow (flatA (List.map api_Edge.av v11))), (1, .cells [Iz v7, AV.slc 0 0 3 v11.length false, Lz v9])] 2 (by simp [h2, h2_]) (by simp [h2, h2_]) ?_
  simp only [Option.some.injEq, Prod.mk.injEq] at hF
  obtain ⟨e0, e1, e2⟩ := hF
  subst e0 e1 e2
  refine AW.ret (hQ _ _ _ ?_ (matchO_0 ?_)).1
  ·simp [Try.f54, h2, h2_]
  ·simp [h2, h2_]
end Go.TF
