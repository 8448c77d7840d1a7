/- Walks: the Go text computes the Lean functions (printed by a program of our own). -/
import Derived.Test.YtmiimcogppdepaaRaPu
import Derived.Test.YtmiimcogppdepaaRaAbsT
import Derived.Test.YtmiimcogppdepaaRaWa0
import Derived.Test.YtmiimcogppdepaaRaWa1
import Derived.Test.YtmiimcogppdepaaRaWa2
import Derived.Test.YtmiimcogppdepaaRaWa3
import Derived.Test.YtmiimcogppdepaaRaWa4
set_option linter.unusedVariables false
set_option linter.unusedSimpArgs false
set_option maxRecDepth 100000
set_option maxHeartbeats 4000000
namespace Go.TF
open Go Go.Abs Go.Proofs Go.Proofs.YtmiimcogppdepaaRaT
theorem w_law13_agree (k : Nat) (v0 : Int) (v1 : (List api_Edge)) (v2 : (List Int)) (v3 : (List Int)) (v4 : (List Int)) (v5 : Int) (v6 : (List Int)) (v7 : Bool) (hF : law13_agree k v0 v1 v2 v3 v4 v5 v6 = some v7) :
  FCall Try.prog 15 [AV.agg [AV.int .i64 v0, AV.lst false false (List.map api_Edge.av v1), AV.lst false false (List.map (AV.int .i64) v2)], AV.agg [AV.lst false false (List.map (AV.int .i64) v3), AV.lst false false (List.map (AV.int .i64) v4), AV.int .i64 v5], AV.lst false false (List.map (AV.int .i64) v6)] [] (AV.bool v7) [] := by
 unfold law13_agree at hF
 refine EN Try.func15 ?_
 intro c0 w0 Q h0 hQ
 refine WK [(0, AV.agg [Iz v0, AV.lst false false (List.map api_Edge.av v1), Lz v2]), (1, AV.agg [Lz v3, Lz v4, Iz v5]), (2, Lz v6)] [] 0 (by simp) (by simp) ?_
 refine SQ [] [none, none, none] fun _ _ g r => ?_
 try simp
 and_intros <;> first | exact g _ (by kernel_rfl) | refine r _ _ _ ?_ | omega | (simp [maxLen] <;> omega)
 refine WK [(2, Lz v6), (3, AV.ptr 0 0), (4, AV.ptr 1 0)] [(0, .cells [Iz v0, AV.lst false false (List.map api_Edge.av v1), Lz v2]), (1, .cells [Lz v3, Lz v4, Iz v5])] 2 (by simp) (by simp) ?_
 refine AW.seq fun K16 hK16 => ?_
 refine SQ [] [none, none, none, none, none, none, none] fun _ _ g r => ?_
 try simp
 and_intros
 try any_goals first | omega | (simp [maxLen] <;> omega)
 obtain ⟨v8, h1, hF⟩ := bnd1_elim hF
 refine AC (w_capacity_Check k _ _ _ _ _ _ _ h1) (.cons (.same (by simp)) (.cons (.same (by simp)) .nil)) ?_
 try simp
 and_intros
 try any_goals first | omega | (simp [maxLen] <;> omega)
 obtain ⟨v9, h2, hF⟩ := bnd1_elim hF
 refine AC (w_ref13_Check k _ _ _ _ _ _ _ h2) (.cons (.same (by simp)) (.cons (.same (by simp)) .nil)) ?_
 try simp
 and_intros <;> first | exact g _ (by kernel_rfl) | refine r _ _ _ ?_ | omega | (simp [maxLen] <;> omega)
 refine WK [(2, Lz v6), (3, AV.ptr 0 0), (4, AV.ptr 1 0), (13, AV.bool (v8 != v9))] [(0, .cells [Iz v0, AV.lst false false (List.map api_Edge.av v1), Lz v2]), (1, .cells [Lz v3, Lz v4, Iz v5])] 2 (by simp) (by simp) ?_
 by_cases h3 : v8 ≠ v9
 ·replace hF := ite_t h3 hF
  have h3_ := eqb_f h3
  have h3__ := neb_t h3
  have F1 := And.intro h3 (And.intro h3_ h3__)
  refine CT (by simp [F1] <;> omega) ?_
  refine SQ [] [none] fun _ _ g r => ?_
  try simp [F1]
  and_intros <;> first | exact g _ (by kernel_rfl) | refine r _ _ _ ?_ | omega | (simp [maxLen, F1] <;> omega)
  refine WK [(6, AV.bool false)] [] 2 (by simp [F1]) (by simp [F1]) ?_
  simp only [Option.some.injEq] at hF
  subst hF
  refine AW.ret (hQ _ _ _ ?_ (matchO_0 ?_)).1
  ·simp [Try.f15, F1]
  ·simp [F1]
 ·replace hF := ite_f h3 hF
  have h3q : v8 = v9 := Classical.not_not.1 h3
  have h3_ := eqb_t h3q
  have h3__ := neb_f h3q
  refine CF (by simp [h3_, h3__] <;> omega) ?_
  refine AW.skip ?_
  refine hK16 _ _ _ ?_
  refine AW.seq fun K21 hK21 => ?_
  refine SQ [] [none, none, none, none] fun _ _ g r => ?_
  try simp [h3_, h3__]
  and_intros
  try any_goals first | omega | (simp [h3_, h3__, maxLen] <;> omega)
  obtain ⟨v10, h4, hF⟩ := bnd1_elim hF
  refine AC (w_ref13_Check k _ _ _ _ _ _ _ h4) (.cons (.same (by simp [h3_, h3__])) (.cons (.same (by simp [h3_, h3__])) .nil)) ?_
  try simp [h3_, h3__]
  and_intros <;> first | exact g _ (by kernel_rfl) | refine r _ _ _ ?_ | omega | (simp [h3_, h3__, maxLen] <;> omega)
  refine WK [(2, Lz v6), (3, AV.ptr 0 0), (4, AV.ptr 1 0), (17, AV.bool (v10 != 0))] [(0, .cells [Iz v0, AV.lst false false (List.map api_Edge.av v1), Lz v2]), (1, .cells [Lz v3, Lz v4, Iz v5])] 2 (by simp [h3_, h3__]) (by simp [h3_, h3__]) ?_
  by_cases h5 : v10 ≠ 0
  ·replace hF := ite_t h5 hF
   have h5_ := eqb_f h5
   have h5__ := neb_t h5
   have F2 := And.intro h3_ (And.intro h3__ (And.intro h5 (And.intro h5_ h5__)))
   refine CT (by simp [F2] <;> omega) ?_
   refine SQ [] [none] fun _ _ g r => ?_
   try simp [F2]
   and_intros <;> first | exact g _ (by kernel_rfl) | refine r _ _ _ ?_ | omega | (simp [maxLen, F2] <;> omega)
   refine WK [(6, AV.bool true)] [] 2 (by simp [F2]) (by simp [F2]) ?_
   simp only [Option.some.injEq] at hF
   subst hF
   refine AW.ret (hQ _ _ _ ?_ (matchO_0 ?_)).1
   ·simp [Try.f15, F2]
   ·simp [F2]
  ·replace hF := ite_f h5 hF
   have h5q : v10 = 0 := Classical.not_not.1 h5
   have h5_ := eqb_t h5q
   have h5__ := neb_f h5q
   have F3 := And.intro h3_ (And.intro h3__ (And.intro h5_ (And.intro h5__ h5q)))
   refine CF (by simp [F3] <;> omega) ?_
   refine AW.skip ?_
   refine hK21 _ _ _ ?_
   refine SQ [] [none, none, none, none, none, none, none, none, some (25, true), some (25, true), some (25, true), some (25, true), some (25, true), some (25, true), some (25, true), some (25, true), some (25, true), none, none] fun _ _ g r => ?_
   try simp [F3]
   and_intros
   try any_goals first | omega | (simp [maxLen, F3] <;> omega)
   obtain ⟨v11, h6, hF⟩ := bnd1_elim hF
   refine AC (w_capacity_All k _ _ _ _ _ _ _ h6) (.cons (.same (by simp [F3])) (.cons (.same (by simp [F3])) .nil)) ?_
   try simp [F3]
   and_intros
   try any_goals first | omega | (simp [maxLen, F3] <;> omega)
   obtain ⟨v12, h7, hF⟩ := bnd1_elim hF
   refine AC (w_ref13_All k _ _ _ _ _ _ _ h7) (.cons (.same (by simp [F3])) (.cons (.same (by simp [F3])) .nil)) ?_
   try simp [F3]
   and_intros
   try any_goals first | omega | (simp [maxLen, F3] <;> omega)
   obtain ⟨v13, h8, hF⟩ := bnd1_elim hF
   refine aCall_l (w_ref03_SameInts k _ _ _ h8) (by simp) [] [2, 3] [] rfl (.cons (Coe.l (o := .cells (List.map (AV.int .i64) v11)) (by simp [F3]) rfl (by simp [F3]) (by simp [noIdsL]) (by simp [F3]) (by simp [F3])) (.cons (Coe.l (o := .grow (List.map (AV.int .i64) v12)) (by simp [F3]) rfl (by simp [F3]) (by simp [noIdsL]) (by simp [F3]) (by simp [F3])) .nil)) (by simp [F3]) (by decide) (by simp) (by simp) (.inr ⟨by simp, by simp⟩) (by simp) (by simp) ?_
   by_cases h9 : v13 = true
   ·replace hF := ite_t h9 hF
    have h9_ := h9
    try simp at h9_
    have F4 := And.intro F3 (And.intro h9 h9_)
    try simp [F4]
    and_intros
    try any_goals first | omega | (simp [maxLen, F4] <;> omega)
    obtain ⟨v14, h10, hF⟩ := bnd1_elim hF
    refine AC (w_capacity_Bound k _ _ _ _ _ _ _ _ h10) (.cons (.same (by simp [F4])) (.cons (.same (by simp [F4])) (.cons (.same (by simp [F4])) .nil))) ?_
    try simp [F4]
    and_intros
    try any_goals first | omega | (simp [maxLen, F4] <;> omega)
    obtain ⟨v15, h11, hF⟩ := bnd1_elim hF
    refine AC (w_ref13_Bound k _ _ _ _ _ _ _ _ h11) (.cons (.same (by simp [F4])) (.cons (.same (by simp [F4])) (.cons (.same (by simp [F4])) .nil))) ?_
    try simp [F4]
    and_intros <;> first | exact g _ (by kernel_rfl) | refine r _ _ _ ?_ | omega | (simp [maxLen, F4] <;> omega)
    refine WK [(6, AV.bool (v14 == v15))] [] 4 (by simp [F4]) (by simp [F4]) ?_
    simp only [Option.some.injEq] at hF
    subst hF
    refine AW.ret (hQ _ _ _ ?_ (matchO_0 ?_)).1
    ·simp [Try.f15, F4]
    ·simp [F4]
   ·replace hF := ite_f h9 hF
    have h9_ := h9
    try simp at h9_
    have F5 := And.intro F3 (And.intro h9 h9_)
    try simp [F5]
    and_intros <;> first | exact g _ (by kernel_rfl) | refine r _ _ _ ?_ | omega | (simp [maxLen, F5] <;> omega)
    refine WK [(6, AV.bool false)] [] 4 (by simp [F5]) (by simp [F5]) ?_
    simp only [Option.some.injEq] at hF
    subst hF
    refine AW.ret (hQ _ _ _ ?_ (matchO_0 ?_)).1
    ·simp [Try.f15, F5]
    ·simp [F5]
theorem w_made_Dice_Of (k : Nat) (v0 : (List Int)) (v1 : Int) (v2 : (List Int)) (v3 : Int) (v4 : Int) (hF : made_Dice_Of k v0 v1 v2 = some (v3, v4)) :
  FCall Try.prog 19 [AV.ptr 0 0, AV.lst false false (List.map (AV.int .i64) v2)] [.cells [AV.lst false false (List.map (AV.int .i64) v0), AV.int .i64 v1]] (AV.int .i64 v3) [some (.cells [AV.lst false false (List.map (AV.int .i64) v0), AV.int .i64 v4])] := by
 unfold made_Dice_Of at hF
 refine EN Try.func19 ?_
 intro c0 w0 Q h0 hQ
 refine WK [(0, AV.ptr 0 0), (1, Lz v2)] [(0, .cells [Lz v0, Iz v1])] 1 (by simp) (by simp) ?_
 refine SQ [] [none] fun _ _ g r => ?_
 try simp
 and_intros <;> first | exact g _ (by kernel_rfl) | refine r _ _ _ ?_ | omega | (simp [maxLen] <;> omega)
 refine WK [(0, AV.ptr 0 0), (1, Lz v2)] [(0, .cells [Lz v0, Iz v1])] 1 (by simp) (by simp) ?_
 refine SQ [] [none, none, none, none, none, none, none, none] fun _ _ g r => ?_
 try simp
 and_intros
 try any_goals first | omega | (simp [maxLen] <;> omega)
 obtain ⟨v5, v6, h1, hF⟩ := bnd2_elim hF
 refine aCall_l (w_made_Dice_Next k _ _ _ _ _ h1) (by simp) [0] [] [0] rfl (.cons (.same (by simp)) (.cons (.same (by simp)) .nil)) (by simp) (by decide) (by simp) (by simp) (.inl rfl) (by simp) (by simp) ?_
 obtain ⟨v7, h2, h3, h4, hF⟩ := idx_elim hF
 have h4_ := get_of h4
 try simp at h4_
 have h3_ := h3
 try simp at h3_
 have F1 := And.intro h2 (And.intro h3 (And.intro h4 (And.intro h4_ h3_)))
 try simp [F1]
 and_intros <;> first | exact g _ (by kernel_rfl) | refine r _ _ _ ?_ | omega | (simp [maxLen, F1] <;> omega)
 refine WK [(4, Iz v7)] [(0, .cells [Lz v0, Iz v6])] 1 (by simp [F1]) (by simp [F1]) ?_
 simp only [Option.some.injEq, Prod.mk.injEq] at hF
 obtain ⟨e0, e1⟩ := hF
 subst e0 e1
 refine AW.ret (hQ _ _ _ ?_ (matchO_0 ?_)).1
 ·simp [Try.f19, F1]
 ·simp [F1]
theorem w_ref11_Put (k : Nat) (v0 : (List Int)) (v1 : Int) (v2 : (List Int)) (hF : ref11_Put k v0 v1 = some v2) :
  FCall Try.prog 40 [AV.lst false false (List.map (AV.int .i64) v0), AV.int .i64 v1] [] (AV.slc 0 0 1 v2.length false) [some (.grow (List.map (AV.int .i64) v2))] := by
 unfold ref11_Put at hF
 refine EN Try.func40 ?_
 intro c0 w0 Q h0 hQ
 refine WK [(0, Lz v0), (1, Iz v1)] [] 0 (by simp) (by simp) ?_
 refine SQ [] [none] fun _ _ g r => ?_
 try simp
 and_intros <;> first | exact g _ (by kernel_rfl) | refine r _ _ _ ?_ | omega | (simp [maxLen] <;> omega)
 refine WK [(0, Lz v0), (1, Iz v1)] [] 0 (by simp) (by simp) ?_
 refine SQ [] [none] fun _ _ g r => ?_
 try simp
 and_intros <;> first | exact g _ (by kernel_rfl) | refine r _ _ _ ?_ | omega | (simp [maxLen] <;> omega)
 refine WK [(0, Lz v0), (1, Iz v1), (5, Iz 0)] [] 0 (by simp) (by simp) ?_
 refine AW.midF (α := Int) (fun v3 => ref11_Put.J1 k v0 v1 v3 = some v2) (fun v3 => [(0, Lz v0), (1, Iz v1), (5, Iz v3)]) (fun v3 => []) 0 (fun K69 hK69 => ?_) ?_
 ·refine AW.block ?_
  refine AW.loopF (α := Int) (fun n v5 => ref11_Put.L3 k v0 v1 n v5 = some v2) (fun v5 => [(0, Lz v0), (1, Iz v1), (5, Iz v5)]) (fun v5 => []) 0 k (0) hF (by simp) (by simp) (by simp) ?_
  rintro (_|n3) v5 hF K82 hK82
  ·try dsimp only at hF
   rw [ref11_Put.L3] at hF; cases hF
  try dsimp only at hF
  rw [ref11_Put.L3] at hF
  refine AW.seq fun K84 hK84 => ?_
  refine SQ [] [none, none, none, none, none, some (10, true), some (10, true), some (10, true), some (10, true), some (10, true), some (10, true), none] fun _ _ g r => ?_
  by_cases h14 : v5 < (v0.length : Int)
  ·replace hF := ite_t h14 hF
   have h14_ := h14
   try simp at h14_
   obtain ⟨v6, h15, h16, h17, hF⟩ := idx_elim hF
   have h17_ := get_of h17
   try simp at h17_
   have h16_ := h16
   try simp at h16_
   have F1 := And.intro h14 (And.intro h14_ (And.intro h15 (And.intro h16 (And.intro h17 (And.intro h17_ h16_)))))
   try simp [F1]
   and_intros <;> first | exact g _ (by kernel_rfl) | refine r _ _ _ ?_ | omega | (simp [maxLen, F1] <;> omega)
   refine WK [(0, Lz v0), (1, Iz v1), (5, Iz v5), (17, AV.bool (decide (v6 < v1)))] [] 0 (by simp [F1]) (by simp [F1]) ?_
   by_cases h18 : v6 < v1
   ·replace hF := ite_t h18 hF
    have h18_ := h18
    try simp at h18_
    have F2 := And.intro F1 (And.intro h18 h18_)
    refine CT (by simp [F2] <;> omega) ?_
    refine AW.skip ?_
    refine hK84 _ _ _ ?_
    refine AW.block ?_
    refine RG [] [none, none, none] fun _ _ g r => ?_
    try simp [F2]
    and_intros <;> first | exact g _ (by kernel_rfl) | refine r _ _ _ ?_ | omega | (simp [maxLen, F2] <;> omega)
    refine hK82 _ _ _ ?_
    exact NX (k' := n3) (IntKind.wrap .i64 (v5 + 1)) hF (by simp [F2]) (by simp [F2])
   ·replace hF := ite_f h18 hF
    have h18_ := h18
    try simp at h18_
    have F3 := And.intro F1 (And.intro h18 h18_)
    refine CF (by simp [F3] <;> omega) ?_
    refine AW.exit ?_
    try simp
    refine hK69 _ _ _ ?_
    exact JN (v5) hF (by simp [F3]) (by simp [F3])
  ·replace hF := ite_f h14 hF
   have h14_ := h14
   try simp at h14_
   try simp [h14, h14_]
   and_intros <;> first | exact g _ (by kernel_rfl) | refine r _ _ _ ?_ | omega | (simp [h14, h14_, maxLen] <;> omega)
   refine WK [(0, Lz v0), (1, Iz v1), (5, Iz v5), (17, AV.bool false)] [] 0 (by simp [h14, h14_]) (by simp [h14, h14_]) ?_
   refine CF (by simp [h14, h14_]) ?_
   refine AW.exit ?_
   try simp
   refine hK69 _ _ _ ?_
   exact JN (v5) hF (by simp [h14, h14_]) (by simp [h14, h14_])
 ·rintro v3 hF
  try dsimp only at hF
  unfold ref11_Put.J1 at hF
  refine AW.midF (α := Unit) (fun _ => ref11_Put.J2 k v0 v1 v3 = some v2) (fun _ => [(0, Lz v0), (1, Iz v1), (5, Iz v3)]) (fun _ => []) 0 (fun K66 hK66 => ?_) ?_
  ·refine SQ [] [none, none, none, none, none, some (24, true), some (24, true), some (24, true), some (24, true), some (24, true), some (24, true), none] fun _ _ g r => ?_
   by_cases h8 : v3 < (v0.length : Int)
   ·replace hF := ite_t h8 hF
    have h8_ := h8
    try simp at h8_
    obtain ⟨v4, h9, h10, h11, hF⟩ := idx_elim hF
    have h11_ := get_of h11
    try simp at h11_
    have h10_ := h10
    try simp at h10_
    have F4 := And.intro h8 (And.intro h8_ (And.intro h9 (And.intro h10 (And.intro h11 (And.intro h11_ h10_)))))
    try simp [F4]
    and_intros <;> first | exact g _ (by kernel_rfl) | refine r _ _ _ ?_ | omega | (simp [maxLen, F4] <;> omega)
    refine WK [(0, Lz v0), (1, Iz v1), (5, Iz v3), (31, AV.bool (v4 == v1))] [] 0 (by simp [F4]) (by simp [F4]) ?_
    by_cases h12 : v4 = v1
    ·replace hF := ite_t h12 hF
     have h12q : v4 = v1 := h12
     have h12_ := eqb_t h12q
     have h12__ := neb_f h12q
     refine CT (by simp [F4, h12_, h12__] <;> omega) ?_
     refine SQ [33] [none, none, none] fun _ _ g r => ?_
     obtain ⟨h13, hF⟩ := chk_elim hF
     have h13_ := h13
     try simp at h13_
     have F5 := And.intro F4 (And.intro h12_ (And.intro h12__ h13))
     try simp [F5]
     and_intros <;> first | exact g _ (by kernel_rfl) | refine r _ _ _ ?_ | omega | (simp [maxLen, F5] <;> omega)
     refine WK [(4, AV.slc 0 0 1 v0.length false)] [(0, .grow (List.map (AV.int .i64) v0))] 1 (by simp [F5]) (by simp [F5]) ?_
     simp only [Option.some.injEq] at hF
     subst hF
     refine AW.ret (hQ _ _ _ ?_ (matchO_0 ?_)).1
     ·simp [Try.f40, F5]
     ·simp [F5]
    ·replace hF := ite_f h12 hF
     have h12_ := eqb_f h12
     have h12__ := neb_t h12
     have F6 := And.intro F4 (And.intro h12 (And.intro h12_ h12__))
     refine CF (by simp [F6] <;> omega) ?_
     refine AW.skip ?_
     refine hK66 _ _ _ ?_
     exact JN (()) hF (by simp [F6]) (by simp [F6])
   ·replace hF := ite_f h8 hF
    have h8_ := h8
    try simp at h8_
    try simp [h8, h8_]
    and_intros <;> first | exact g _ (by kernel_rfl) | refine r _ _ _ ?_ | omega | (simp [h8, h8_, maxLen] <;> omega)
    refine WK [(0, Lz v0), (1, Iz v1), (5, Iz v3), (31, AV.bool false)] [] 0 (by simp [h8, h8_]) (by simp [h8, h8_]) ?_
    refine CF (by simp [h8, h8_]) ?_
    refine AW.skip ?_
    refine hK66 _ _ _ ?_
    exact JN (()) hF (by simp [h8, h8_]) (by simp [h8, h8_])
  ·rintro ⟨⟩ hF
   try dsimp only at hF
   unfold ref11_Put.J2 at hF
   refine SQ [37] [none, none, none, none, none, none, none, none, none, none, none, none] fun _ _ g r => ?_
   obtain ⟨⟨h1, h2⟩, hF⟩ := chk_elim hF
   have h1_ := h1
   try simp at h1_
   have h2_ := h2
   try simp at h2_
   obtain ⟨h3, hF⟩ := chk_elim hF
   have h3_ := h3
   try simp at h3_
   obtain ⟨h4, hF⟩ := chk_elim hF
   have h4_ := h4
   try simp at h4_
   obtain ⟨⟨h5, h6⟩, hF⟩ := chk_elim hF
   have h5_ := h5
   try simp at h5_
   have h6_ := h6
   try simp at h6_
   obtain ⟨h7, hF⟩ := chk_elim hF
   have h7_ := h7
   try simp at h7_
   have F7 := And.intro h1 (And.intro h2 (And.intro h1_ (And.intro h2_ (And.intro h3 (And.intro h4 (And.intro h5 (And.intro h6 (And.intro h5_ (And.intro h6_ h7)))))))))
   try simp [F7]
   and_intros <;> first | exact g _ (by kernel_rfl) | refine r _ _ _ ?_ | omega | (simp [maxLen, F7] <;> omega)
   refine RM h0 [(0, 2)] [(4, AV.slc 0 0 1 ((((v0.take (v3).toNat) ++ ([v1] : List Int)) ++ (v0.drop (v3).toNat)).length) false)] [(0, .grow (List.map (AV.int .i64) (((v0.take (v3).toNat) ++ ([v1] : List Int)) ++ (v0.drop (v3).toNat))))] 1 (by simp [F7] <;> omega) (by simp [F7]) ?_
   simp only [Option.some.injEq] at hF
   subst hF
   refine AW.ret (hQ _ _ _ ?_ (matchO_0 ?_)).1
   ·simp [Try.f40, F7]
   ·simp [F7]
abbrev c_made_Dice_Policy  : AObj := .cells [AV.lst true true (List.map (AV.int .i64) ([] : List Int)), AV.lst true true (List.map (AV.int .i64) ([] : List Int)), Iz 0]
abbrev c_made_Dice_Policy1  : AObj := .cells [AV.lst true true (List.map (AV.int .i64) ([] : List Int)), AV.slc 2 0 1 (([] : List Int).length) false, Iz 0]
theorem w_made_Dice_Policy (k : Nat) (v0 : (List Int)) (v1 : Int) (v2 : Int) (v3 : (List api_Edge)) (v4 : (List Int)) (v5 : (List Int)) (v6 : (List Int)) (v7 : Int) (v8 : Int) (hF : made_Dice_Policy k v0 v1 v2 v3 v4 = some (v5, v6, v7, v8)) :
  FCall Try.prog 16 [AV.ptr 0 0, AV.agg [AV.int .i64 v2, AV.lst false false (List.map api_Edge.av v3), AV.lst false false (List.map (AV.int .i64) v4)]] [.cells [AV.lst false false (List.map (AV.int .i64) v0), AV.int .i64 v1]] (AV.agg [AV.lst false false (List.map (AV.int .i64) v5), AV.slc 1 0 1 v6.length false, AV.int .i64 v7]) [some (.cells [AV.lst false false (List.map (AV.int .i64) v0), AV.int .i64 v8]), some (.grow (List.map (AV.int .i64) v6))] := by
 unfold made_Dice_Policy at hF
 refine EN Try.func16 ?_
 intro c0 w0 Q h0 hQ
 refine WK [(0, AV.ptr 0 0), (1, AV.agg [Iz v2, AV.lst false false (List.map api_Edge.av v3), Lz v4])] [(0, .cells [Lz v0, Iz v1])] 1 (by simp) (by simp) ?_
 refine SQ [] [none, none] fun _ _ g r => ?_
 try simp
 and_intros <;> first | exact g _ (by kernel_rfl) | refine r _ _ _ ?_ | omega | (simp [maxLen] <;> omega)
 refine WK [(0, AV.ptr 0 0), (3, AV.ptr 1 0), (4, AV.ptr 2 0)] [(0, .cells [Lz v0, Iz v1]), (1, .cells [Iz v2, AV.lst false false (List.map api_Edge.av v3), Lz v4]), (2, c_made_Dice_Policy )] 3 (by simp) (by simp) ?_
 refine SQ [] [none, none, none, none, none, none, none, none, none, none, none] fun _ _ g r => ?_
 try simp
 and_intros
 try any_goals first | omega | (simp [maxLen] <;> omega)
 obtain ⟨v9, v10, h1, hF⟩ := bnd2_elim hF
 refine aCall_l (w_made_Dice_Next k _ _ _ _ _ h1) (by simp) [0] [] [0] rfl (.cons (.same (by simp)) (.cons (.same (by simp)) .nil)) (by simp) (by decide) (by simp) (by simp) (.inl rfl) (by simp) (by simp) ?_
 try simp
 and_intros
 try any_goals first | omega | (simp [maxLen] <;> omega)
 obtain ⟨v11, v12, h2, hF⟩ := bnd2_elim hF
 refine aCall_l (w_made_Dice_Of k _ _ _ _ _ h2) (by simp) [0] [] [0] rfl (.cons (.same (by simp)) (.cons (Coe.fl (by simp)) .nil)) (by simp) (by decide) (by simp) (by simp) (.inl rfl) (by simp) (by simp) ?_
 try simp
 and_intros <;> first | exact g _ (by kernel_rfl) | refine r _ _ _ ?_ | omega | (simp [maxLen] <;> omega)
 refine WK [(0, AV.ptr 0 0), (3, AV.ptr 1 0), (4, AV.ptr 2 0), (5, AV.ptr 3 0)] [(0, .cells [Lz v0, Iz v12]), (1, .cells [Iz v2, AV.lst false false (List.map api_Edge.av v3), Lz v4]), (2, c_made_Dice_Policy ), (3, .cells [AV.lst false true (List.map (AV.int .i64) ([v9] : List Int)), AV.lst true true (List.map (AV.int .i64) ([] : List Int)), Iz v11])] 4 (by simp) (by simp) ?_
 refine AW.midF (α := (Int × (List Int))) (fun (v13, v14) => made_Dice_Policy.J1 k v0 v11 v13 v14 = some (v5, v6, v7, v8)) (fun (v13, v14) => [(0, AV.ptr 0 0), (4, AV.ptr 1 0), (5, AV.ptr 2 0)]) (fun (v13, v14) => [(0, .cells [Lz v0, Iz v13]), (1, c_made_Dice_Policy ), (2, .cells [Lz v14, AV.lst true true (List.map (AV.int .i64) ([] : List Int)), Iz v11])]) 3 (fun K170 hK170 => ?_) ?_
 ·refine SQ [] [none, none] fun _ _ g r => ?_
  try simp
  and_intros
  try any_goals first | omega | (simp [maxLen] <;> omega)
  obtain ⟨v26, v27, h9, hF⟩ := bnd2_elim hF
  refine aCall_l (w_made_Dice_One k _ _ _ _ _ h9) (by simp) [0] [] [0] rfl (.cons (.same (by simp)) (.cons (.same (by simp)) .nil)) (by simp) (by decide) (by simp) (by simp) (.inl rfl) (by simp) (by simp) ?_
  try simp
  and_intros <;> first | exact g _ (by kernel_rfl) | refine r _ _ _ ?_ | omega | (simp [maxLen] <;> omega)
  refine WK [(0, AV.ptr 0 0), (3, AV.ptr 1 0), (4, AV.ptr 2 0), (5, AV.ptr 3 0), (18, AV.bool v26)] [(0, .cells [Lz v0, Iz v27]), (1, .cells [Iz v2, AV.lst false false (List.map api_Edge.av v3), Lz v4]), (2, c_made_Dice_Policy ), (3, .cells [AV.lst false true (List.map (AV.int .i64) ([v9] : List Int)), AV.lst true true (List.map (AV.int .i64) ([] : List Int)), Iz v11])] 4 (by simp) (by simp) ?_
  by_cases h10 : v26 = true
  ·replace hF := ite_t h10 hF
   have h10_ := h10
   try simp at h10_
   refine CT (by simp [h10, h10_] <;> omega) ?_
   refine RG [] [none, none, none, none, none, none, none, none, none] fun _ _ g r => ?_
   try simp [h10, h10_]
   and_intros
   try any_goals first | omega | (simp [h10, h10_, maxLen] <;> omega)
   obtain ⟨v28, v29, h11, hF⟩ := bnd2_elim hF
   refine aCall_l (w_made_Dice_Next k _ _ _ _ _ h11) (by simp) [0] [] [0] rfl (.cons (.same (by simp [h10, h10_])) (.cons (.same (by simp [h10, h10_])) .nil)) (by simp [h10, h10_]) (by decide) (by simp) (by simp) (.inl rfl) (by simp) (by simp) ?_
   try simp [h10, h10_]
   and_intros
   try any_goals first | omega | (simp [h10, h10_, maxLen] <;> omega)
   obtain ⟨v30, h12, hF⟩ := bnd1_elim hF
   refine AC (w_ref11_Put k _ _ _ h12) (.cons (Coe.fl (by simp [h10, h10_])) (.cons (.same (by simp [h10, h10_])) .nil)) ?_
   try simp [h10, h10_]
   and_intros <;> first | exact g _ (by kernel_rfl) | refine r _ _ _ ?_ | omega | (simp [h10, h10_, maxLen] <;> omega)
   refine hK170 _ _ _ ?_
   refine Can.weak [(0, AV.ptr 0 0), (4, AV.ptr 2 0), (5, AV.ptr 3 0)] [(0, .cells [Lz v0, Iz v29]), (2, c_made_Dice_Policy ), (3, .cells [AV.slc 4 0 1 v30.length false, AV.lst true true (List.map (AV.int .i64) ([] : List Int)), Iz v11]), (4, .grow (List.map (AV.int .i64) v30))] 5 (by simp [h10, h10_]) (by simp [h10, h10_]) (by simp) ?_
   refine Can.freeze 4 (o := .grow (List.map (AV.int .i64) v30)) (by simp [h10, h10_]) rfl [] [(3, .cells [Lz v30, AV.lst true true (List.map (AV.int .i64) ([] : List Int)), Iz v11])] trivial ⟨⟨by simp, AObj.cells [AV.slc 4 0 1 v30.length false, AV.lst true true (List.map (AV.int .i64) ([] : List Int)), Iz v11], by simp [h10, h10_], (.mk (.cons (.l (by simp) (by simp) (by simp) (by simp)) (.cons (.same _) (.cons (.same _) .nil))))⟩, trivial⟩ ?_
   refine Can.ren (m := 1) h0 [(0, 0), (1, 2), (2, 3)] [(0, AV.ptr 0 0), (4, AV.ptr 1 0), (5, AV.ptr 2 0)] [(0, .cells [Lz v0, Iz v29]), (1, c_made_Dice_Policy ), (2, .cells [Lz v30, AV.lst true true (List.map (AV.int .i64) ([] : List Int)), Iz v11])] 3 (by decide) (by decide) (by decide) rfl (by simp [h10, h10_]) (by simp [h10, h10_]) ?_
   exact JN ((v29, v30)) hF (by simp [h10, h10_]) (by simp [h10, h10_])
  ·replace hF := ite_f h10 hF
   have h10_ := h10
   try simp at h10_
   refine CF (by simp [h10, h10_] <;> omega) ?_
   refine AW.skip ?_
   refine hK170 _ _ _ ?_
   refine Can.ren (m := 1) h0 [(0, 0), (1, 2), (2, 3)] [(0, AV.ptr 0 0), (4, AV.ptr 1 0), (5, AV.ptr 2 0)] [(0, .cells [Lz v0, Iz v27]), (1, c_made_Dice_Policy ), (2, .cells [AV.lst false true (List.map (AV.int .i64) ([v9] : List Int)), AV.lst true true (List.map (AV.int .i64) ([] : List Int)), Iz v11])] 3 (by decide) (by decide) (by decide) rfl (by simp [h10, h10_]) (by simp [h10, h10_]) ?_
   refine Can.flg [] [(2, .cells [Lz ([v9] : List Int), AV.lst true true (List.map (AV.int .i64) ([] : List Int)), Iz v11])] trivial ⟨⟨AObj.cells [AV.lst false true (List.map (AV.int .i64) ([v9] : List Int)), AV.lst true true (List.map (AV.int .i64) ([] : List Int)), Iz v11], by simp [h10, h10_], (.mk (.cons (.lst (by simp)) (.cons (.same _) (.cons (.same _) .nil))))⟩, trivial⟩ (by simp) ?_
   exact JN ((v27, ([v9] : List Int))) hF (by simp [h10, h10_]) (by simp [h10, h10_])
 ·rintro ⟨v13, v14⟩ hF
  try dsimp only at hF
  unfold made_Dice_Policy.J1 at hF
  refine SQ [] [none, none, none, none, none] fun _ _ g r => ?_
  try simp
  and_intros
  try any_goals first | omega | (simp [maxLen] <;> omega)
  obtain ⟨v15, v16, h3, hF⟩ := bnd2_elim hF
  refine aCall_l (w_made_Dice_Of k _ _ _ _ _ h3) (by simp) [0] [] [0] rfl (.cons (.same (by simp)) (.cons (Coe.fl (by simp)) .nil)) (by simp) (by decide) (by simp) (by simp) (.inl rfl) (by simp) (by simp) ?_
  try simp
  and_intros <;> first | exact g _ (by kernel_rfl) | refine r _ _ _ ?_ | omega | (simp [maxLen] <;> omega)
  refine WK [(0, AV.ptr 0 0), (4, AV.ptr 1 0), (5, AV.ptr 2 0), (6, Iz (IntKind.wrap .i64 (1 + v15)))] [(0, .cells [Lz v0, Iz v16]), (1, c_made_Dice_Policy ), (2, .cells [Lz v14, AV.lst true true (List.map (AV.int .i64) ([] : List Int)), Iz v11])] 3 (by simp) (by simp) ?_
  refine AW.seq fun K130 hK130 => ?_
  refine SQ [] [none, none, none, none] fun _ _ g r => ?_
  try simp
  and_intros
  try any_goals first | omega | (simp [maxLen] <;> omega)
  obtain ⟨v17, v18, h4, hF⟩ := bnd2_elim hF
  refine aCall_l (w_made_Dice_Next k _ _ _ _ _ h4) (by simp) [0] [] [0] rfl (.cons (.same (by simp)) (.cons (.same (by simp)) .nil)) (by simp) (by decide) (by simp) (by simp) (.inl rfl) (by simp) (by simp) ?_
  try simp
  and_intros <;> first | exact g _ (by kernel_rfl) | refine r _ _ _ ?_ | omega | (simp [maxLen] <;> omega)
  refine WK [(0, AV.ptr 0 0), (4, AV.ptr 1 0), (5, AV.ptr 2 0), (6, Iz (IntKind.wrap .i64 (1 + v15))), (7, Iz (IntKind.wrap .i64 (1 + v17)))] [(0, .cells [Lz v0, Iz v18]), (1, c_made_Dice_Policy ), (2, .cells [Lz v14, AV.lst true true (List.map (AV.int .i64) ([] : List Int)), Iz v11])] 3 (by simp) (by simp) ?_
  refine AW.block ?_
  refine AW.ownC 1 1 1 true (cs := [AV.lst true true (List.map (AV.int .i64) ([] : List Int)), AV.lst true true (List.map (AV.int .i64) ([] : List Int)), Iz 0]) (by simp) (by simp) ?_
  refine AW.ownC 2 1 1 true (cs := [Lz v14, AV.lst true true (List.map (AV.int .i64) ([] : List Int)), Iz v11]) (by simp) (by simp) ?_
  refine AW.rnm (m := 1) h0 [(0, 0), (1, 1), (2, 3), (3, 2), (4, 4)] [(0, AV.ptr 0 0), (4, AV.ptr 1 0), (5, AV.ptr 3 0), (6, Iz (IntKind.wrap .i64 (1 + v15))), (7, Iz (IntKind.wrap .i64 (1 + v17)))] [(0, .cells [Lz v0, Iz v18]), (1, c_made_Dice_Policy1 ), (2, .grow (List.map (AV.int .i64) ([] : List Int))), (3, .cells [Lz v14, AV.slc 4 0 1 (([] : List Int).length) false, Iz v11]), (4, .grow (List.map (AV.int .i64) ([] : List Int)))] 5 (by decide) (by decide) (by decide) rfl (by simp) (by simp) ?_
  refine AW.loopF (α := (Int × Int × Int × (List Int))) (fun n (v19, v20, v21, v22) => made_Dice_Policy.L2 k v0 v11 v14 n v19 v20 v21 v22 = some (v5, v6, v7, v8)) (fun (v19, v20, v21, v22) => [(0, AV.ptr 0 0), (4, AV.ptr 1 0), (5, AV.ptr 3 0), (6, Iz v19), (7, Iz v20)]) (fun (v19, v20, v21, v22) => [(0, .cells [Lz v0, Iz v21]), (1, c_made_Dice_Policy1 ), (2, .grow (List.map (AV.int .i64) ([] : List Int))), (3, .cells [Lz v14, AV.slc 4 0 1 v22.length false, Iz v11]), (4, .grow (List.map (AV.int .i64) v22))]) 5 k ((IntKind.wrap .i64 (1 + v15), IntKind.wrap .i64 (1 + v17), v18, ([] : List Int))) hF (by simp) (by simp) (by simp) ?_
  rintro (_|n2) ⟨v19, v20, v21, v22⟩ hF K159 hK159
  ·try dsimp only at hF
   rw [made_Dice_Policy.L2] at hF; cases hF
  try dsimp only at hF
  rw [made_Dice_Policy.L2] at hF
  refine AW.seq fun K161 hK161 => ?_
  refine SQ [] [none, none] fun _ _ g r => ?_
  try simp
  and_intros <;> first | exact g _ (by kernel_rfl) | refine r _ _ _ ?_ | omega | (simp [maxLen] <;> omega)
  refine WK [(0, AV.ptr 0 0), (4, AV.ptr 1 0), (5, AV.ptr 3 0), (6, Iz v19), (7, Iz v20), (35, AV.bool (decide (0 < v20)))] [(0, .cells [Lz v0, Iz v21]), (1, c_made_Dice_Policy1 ), (2, .grow (List.map (AV.int .i64) ([] : List Int))), (3, .cells [Lz v14, AV.slc 4 0 1 v22.length false, Iz v11]), (4, .grow (List.map (AV.int .i64) v22))] 5 (by simp) (by simp) ?_
  by_cases h5 : 0 < v20
  ·replace hF := ite_t h5 hF
   have h5_ := h5
   try simp at h5_
   refine CT (by simp [h5, h5_] <;> omega) ?_
   refine AW.skip ?_
   refine hK161 _ _ _ ?_
   refine AW.seq fun K165 hK165 => ?_
   refine AW.block ?_
   refine SQ [] [none, none, none, none, none, none, none] fun _ _ g r => ?_
   obtain ⟨h6, hF⟩ := chk_elim hF
   have h6_ := h6
   try simp at h6_
   have F1 := And.intro h5 (And.intro h5_ h6)
   try simp [F1]
   and_intros <;> first | exact g _ (by kernel_rfl) | refine r _ _ _ ?_ | omega | (simp [maxLen, F1] <;> omega)
   refine WK [(0, AV.ptr 0 0), (4, AV.ptr 1 0), (5, AV.ptr 3 0), (6, Iz v19), (7, Iz v20)] [(0, .cells [Lz v0, Iz v21]), (1, c_made_Dice_Policy1 ), (2, .grow (List.map (AV.int .i64) ([] : List Int))), (3, .cells [Lz v14, AV.slc 5 0 1 ((v22 ++ ([v19] : List Int)).length) false, Iz v11]), (5, .grow (List.map (AV.int .i64) (v22 ++ ([v19] : List Int))))] 6 (by simp [F1]) (by simp [F1] <;> omega) ?_
   refine RG [] [none, none, none, none, none, none] fun _ _ g r => ?_
   try simp [F1]
   and_intros
   try any_goals first | omega | (simp [maxLen, F1] <;> omega)
   obtain ⟨v23, v24, h7, hF⟩ := bnd2_elim hF
   refine aCall_l (w_made_Dice_Next k _ _ _ _ _ h7) (by simp) [0] [] [0] rfl (.cons (.same (by simp [F1])) (.cons (.same (by simp [F1])) .nil)) (by simp [F1]) (by decide) (by simp) (by simp) (.inl rfl) (by simp) (by simp) ?_
   obtain ⟨v25, h8, hF⟩ := let1_elim hF
   have h8_ := h8
   try simp at h8_
   have F2 := And.intro F1 (And.intro h8 h8_)
   try simp [F2]
   and_intros <;> first | exact g _ (by kernel_rfl) | refine r _ _ _ ?_ | omega | (simp [maxLen, F2] <;> omega)
   refine hK165 _ _ _ ?_
   refine WK [(0, AV.ptr 0 0), (4, AV.ptr 1 0), (5, AV.ptr 3 0), (6, Iz v25), (7, Iz v20)] [(0, .cells [Lz v0, Iz v24]), (1, c_made_Dice_Policy1 ), (2, .grow (List.map (AV.int .i64) ([] : List Int))), (3, .cells [Lz v14, AV.slc 5 0 1 ((v22 ++ ([v19] : List Int)).length) false, Iz v11]), (5, .grow (List.map (AV.int .i64) (v22 ++ ([v19] : List Int))))] 6 (by simp [F2]) (by simp [F2] <;> omega) ?_
   refine RG [] [none, none, none] fun _ _ g r => ?_
   try simp [F2]
   and_intros <;> first | exact g _ (by kernel_rfl) | refine r _ _ _ ?_ | omega | (simp [maxLen, F2] <;> omega)
   refine hK159 _ _ _ ?_
   refine Can.weak [(0, AV.ptr 0 0), (4, AV.ptr 1 0), (5, AV.ptr 3 0), (6, Iz v25), (7, Iz (IntKind.wrap .i64 (v20 - 1)))] [(0, .cells [Lz v0, Iz v24]), (1, c_made_Dice_Policy1 ), (2, .grow (List.map (AV.int .i64) ([] : List Int))), (3, .cells [Lz v14, AV.slc 5 0 1 ((v22 ++ ([v19] : List Int)).length) false, Iz v11]), (5, .grow (List.map (AV.int .i64) (v22 ++ ([v19] : List Int))))] 6 (by simp [F2]) (by simp [F2] <;> omega) (by simp) ?_
   refine Can.ren (m := 1) h0 [(0, 0), (1, 1), (2, 2), (3, 3), (4, 5)] [(0, AV.ptr 0 0), (4, AV.ptr 1 0), (5, AV.ptr 3 0), (6, Iz v25), (7, Iz (IntKind.wrap .i64 (v20 - 1)))] [(0, .cells [Lz v0, Iz v24]), (1, c_made_Dice_Policy1 ), (2, .grow (List.map (AV.int .i64) ([] : List Int))), (3, .cells [Lz v14, AV.slc 4 0 1 ((v22 ++ ([v19] : List Int)).length) false, Iz v11]), (4, .grow (List.map (AV.int .i64) (v22 ++ ([v19] : List Int))))] 5 (by decide) (by decide) (by decide) rfl (by simp [F2]) (by simp [F2]) ?_
   exact NX (k' := n2) ((v25, IntKind.wrap .i64 (v20 - 1), v24, v22 ++ ([v19] : List Int))) hF (by simp [F2]) (by simp [F2])
  ·replace hF := ite_f h5 hF
   have h5_ := h5
   try simp at h5_
   refine CF (by simp [h5, h5_] <;> omega) ?_
   refine AW.exit ?_
   try simp
   refine hK130 _ _ _ ?_
   refine SQ [] [none, none] fun _ _ g r => ?_
   try simp [h5, h5_]
   and_intros <;> first | exact g _ (by kernel_rfl) | refine r _ _ _ ?_ | omega | (simp [h5, h5_, maxLen] <;> omega)
   refine WK [(4, AV.ptr 1 0)] [(0, .cells [Lz v0, Iz v21]), (1, .cells [Lz v14, AV.slc 4 0 1 v22.length false, Iz v11]), (4, .grow (List.map (AV.int .i64) v22))] 5 (by simp [h5, h5_]) (by simp [h5, h5_]) ?_
   refine AW.rnm (m := 1) h0 [(0, 0), (1, 4), (2, 1)] [(4, AV.ptr 2 0)] [(0, .cells [Lz v0, Iz v21]), (1, .grow (List.map (AV.int .i64) v22)), (2, .cells [Lz v14, AV.slc 1 0 1 v22.length false, Iz v11])] 3 (by decide) (by decide) (by decide) rfl (by simp [h5, h5_]) (by simp [h5, h5_]) ?_
   simp only [Option.some.injEq, Prod.mk.injEq] at hF
   obtain ⟨e0, e1, e2, e3⟩ := hF
   subst e0 e1 e2 e3
   refine AW.ret (hQ _ _ _ ?_ (matchO_0 ?_)).1
   ·simp [Try.f16, h5, h5_]
   ·simp [h5, h5_]
theorem w_law13_CapacityRaw (k : Nat) (v0 : (List Int)) (v1 : (List Int)) (v2 : (List Int)) (v3 : Int) (v4 : (List Int)) (v5 : Bool) (hF : law13_CapacityRaw k v0 v1 v2 v3 v4 = some v5) :
  FCall Try.prog 3 [AV.lst false false (List.map (AV.int .i64) v0), AV.agg [AV.lst false false (List.map (AV.int .i64) v1), AV.lst false false (List.map (AV.int .i64) v2), AV.int .i64 v3], AV.lst false false (List.map (AV.int .i64) v4)] [] (AV.bool v5) [] := by
 unfold law13_CapacityRaw at hF
 refine EN Try.func3 ?_
 intro c0 w0 Q h0 hQ
 refine WK [(0, Lz v0), (1, AV.agg [Lz v1, Lz v2, Iz v3]), (2, Lz v4)] [] 0 (by simp) (by simp) ?_
 refine SQ [] [none, none] fun _ _ g r => ?_
 try simp
 and_intros <;> first | exact g _ (by kernel_rfl) | refine r _ _ _ ?_ | omega | (simp [maxLen] <;> omega)
 refine WK [(0, Lz v0), (2, Lz v4), (4, AV.ptr 0 0)] [(0, .cells [Lz v1, Lz v2, Iz v3])] 1 (by simp) (by simp) ?_
 refine AW.seq fun K107 hK107 => ?_
 refine SQ [] [none, none, none, none, some (14, false), some (14, false), some (14, false), some (14, false), none, none, some (20, false), some (20, false), some (20, false), some (20, false), none, none, some (26, false), some (26, false), some (26, false), none] fun _ _ g r => ?_
 try simp
 and_intros
 try any_goals first | omega | (simp [maxLen] <;> omega)
 obtain ⟨v6, h1, hF⟩ := bnd1_elim hF
 refine AC (w_made_Light k _ _ h1) (.cons (.same (by simp)) .nil) ?_
 by_cases h2 : (!v6) = true
 ·replace hF := ite_t h2 hF
  have h2_ := h2
  try simp at h2_
  try simp [h2, h2_]
  and_intros <;> first | exact g _ (by kernel_rfl) | refine r _ _ _ ?_ | omega | (simp [h2, h2_, maxLen] <;> omega)
  refine WK [(0, Lz v0), (2, Lz v4), (4, AV.ptr 0 0), (30, AV.bool true)] [(0, .cells [Lz v1, Lz v2, Iz v3])] 1 (by simp [h2, h2_]) (by simp [h2, h2_]) ?_
  refine CT (by simp [h2, h2_]) ?_
  refine SQ [] [none, none] fun _ _ g r => ?_
  try simp [h2, h2_]
  and_intros
  try any_goals first | omega | (simp [h2, h2_, maxLen] <;> omega)
  obtain ⟨v7, h3, hF⟩ := bnd1_elim hF
  refine AC (w_law13_awake k _ h3) .nil ?_
  try simp [h2, h2_]
  and_intros <;> first | exact g _ (by kernel_rfl) | refine r _ _ _ ?_ | omega | (simp [h2, h2_, maxLen] <;> omega)
  refine WK [(6, AV.bool v7)] [] 1 (by simp [h2, h2_]) (by simp [h2, h2_]) ?_
  simp only [Option.some.injEq] at hF
  subst hF
  refine AW.ret (hQ _ _ _ ?_ (matchO_0 ?_)).1
  ·simp [Try.f3, h2, h2_]
  ·simp [h2, h2_]
 ·replace hF := ite_f h2 hF
  have h2_ := h2
  try simp at h2_
  by_cases h4 : 70 < (v1.length : Int)
  ·replace hF := ite_t h4 hF
   have h4_ := h4
   try simp at h4_
   have F1 := And.intro h2 (And.intro h2_ (And.intro h4 h4_))
   try simp [F1]
   and_intros <;> first | exact g _ (by kernel_rfl) | refine r _ _ _ ?_ | omega | (simp [maxLen, F1] <;> omega)
   refine WK [(0, Lz v0), (2, Lz v4), (4, AV.ptr 0 0), (30, AV.bool true)] [(0, .cells [Lz v1, Lz v2, Iz v3])] 1 (by simp [F1]) (by simp [F1]) ?_
   refine CT (by simp [F1]) ?_
   refine SQ [] [none, none] fun _ _ g r => ?_
   try simp [F1]
   and_intros
   try any_goals first | omega | (simp [maxLen, F1] <;> omega)
   obtain ⟨v8, h5, hF⟩ := bnd1_elim hF
   refine AC (w_law13_awake k _ h5) .nil ?_
   try simp [F1]
   and_intros <;> first | exact g _ (by kernel_rfl) | refine r _ _ _ ?_ | omega | (simp [maxLen, F1] <;> omega)
   refine WK [(6, AV.bool v8)] [] 1 (by simp [F1]) (by simp [F1]) ?_
   simp only [Option.some.injEq] at hF
   subst hF
   refine AW.ret (hQ _ _ _ ?_ (matchO_0 ?_)).1
   ·simp [Try.f3, F1]
   ·simp [F1]
  ·replace hF := ite_f h4 hF
   have h4_ := h4
   try simp at h4_
   by_cases h6 : 20 < (v2.length : Int)
   ·replace hF := ite_t h6 hF
    have h6_ := h6
    try simp at h6_
    have F2 := And.intro h2 (And.intro h2_ (And.intro h4 (And.intro h4_ (And.intro h6 h6_))))
    try simp [F2]
    and_intros <;> first | exact g _ (by kernel_rfl) | refine r _ _ _ ?_ | omega | (simp [maxLen, F2] <;> omega)
    refine WK [(0, Lz v0), (2, Lz v4), (4, AV.ptr 0 0), (30, AV.bool true)] [(0, .cells [Lz v1, Lz v2, Iz v3])] 1 (by simp [F2]) (by simp [F2]) ?_
    refine CT (by simp [F2]) ?_
    refine SQ [] [none, none] fun _ _ g r => ?_
    try simp [F2]
    and_intros
    try any_goals first | omega | (simp [maxLen, F2] <;> omega)
    obtain ⟨v9, h7, hF⟩ := bnd1_elim hF
    refine AC (w_law13_awake k _ h7) .nil ?_
    try simp [F2]
    and_intros <;> first | exact g _ (by kernel_rfl) | refine r _ _ _ ?_ | omega | (simp [maxLen, F2] <;> omega)
    refine WK [(6, AV.bool v9)] [] 1 (by simp [F2]) (by simp [F2]) ?_
    simp only [Option.some.injEq] at hF
    subst hF
    refine AW.ret (hQ _ _ _ ?_ (matchO_0 ?_)).1
    ·simp [Try.f3, F2]
    ·simp [F2]
   ·replace hF := ite_f h6 hF
    have h6_ := h6
    try simp at h6_
    have F3 := And.intro h2 (And.intro h2_ (And.intro h4 (And.intro h4_ (And.intro h6 h6_))))
    try simp [F3]
    and_intros <;> first | exact g _ (by kernel_rfl) | refine r _ _ _ ?_ | omega | (simp [maxLen, F3] <;> omega)
    refine WK [(0, Lz v0), (2, Lz v4), (4, AV.ptr 0 0), (30, AV.bool (decide (70 < (v4.length : Int))))] [(0, .cells [Lz v1, Lz v2, Iz v3])] 1 (by simp [F3]) (by simp [F3]) ?_
    by_cases h8 : 70 < (v4.length : Int)
    ·replace hF := ite_t h8 hF
     have h8_ := h8
     try simp at h8_
     have F4 := And.intro F3 (And.intro h8 h8_)
     refine CT (by simp [F4] <;> omega) ?_
     refine SQ [] [none, none] fun _ _ g r => ?_
     try simp [F4]
     and_intros
     try any_goals first | omega | (simp [maxLen, F4] <;> omega)
     obtain ⟨v10, h9, hF⟩ := bnd1_elim hF
     refine AC (w_law13_awake k _ h9) .nil ?_
     try simp [F4]
     and_intros <;> first | exact g _ (by kernel_rfl) | refine r _ _ _ ?_ | omega | (simp [maxLen, F4] <;> omega)
     refine WK [(6, AV.bool v10)] [] 1 (by simp [F4]) (by simp [F4]) ?_
     simp only [Option.some.injEq] at hF
     subst hF
     refine AW.ret (hQ _ _ _ ?_ (matchO_0 ?_)).1
     ·simp [Try.f3, F4]
     ·simp [F4]
    ·replace hF := ite_f h8 hF
     have h8_ := h8
     try simp at h8_
     have F5 := And.intro F3 (And.intro h8 h8_)
     refine CF (by simp [F5] <;> omega) ?_
     refine AW.skip ?_
     refine hK107 _ _ _ ?_
     refine SQ [] [none, none, none] fun _ _ g r => ?_
     try simp [F5]
     and_intros
     try any_goals first | omega | (simp [maxLen, F5] <;> omega)
     obtain ⟨v11, v12, h10, hF⟩ := bnd2_elim hF
     refine AC (w_made_Roll k _ _ _ h10) (.cons (.same (by simp [F5])) .nil) ?_
     try simp [F5]
     and_intros <;> first | exact g _ (by kernel_rfl) | refine r _ _ _ ?_ | omega | (simp [maxLen, F5] <;> omega)
     refine WK [(2, Lz v4), (4, AV.ptr 0 0), (7, AV.ptr 1 0)] [(0, .cells [Lz v1, Lz v2, Iz v3]), (1, .cells [Lz v11, Iz v12])] 2 (by simp [F5]) (by simp [F5]) ?_
     refine SQ [] [none, none, none, none] fun _ _ g r => ?_
     try simp [F5]
     and_intros
     try any_goals first | omega | (simp [maxLen, F5] <;> omega)
     obtain ⟨v13, v14, v15, v16, h11, hF⟩ := bnd4_elim hF
     refine aCall_l (w_made_Dice_Graph_o k _ _ _ _ _ _ h11) (by simp) [1] [] [1] rfl (.cons (.same (by simp [F5])) .nil) (by simp [F5]) (by decide) (by simp) (by simp) (.inl rfl) (by simp) (by simp) ?_
     try simp [F5]
     and_intros <;> first | exact g _ (by kernel_rfl) | refine r _ _ _ ?_ | omega | (simp [maxLen, F5] <;> omega)
     refine WK [(2, Lz v4), (4, AV.ptr 0 0), (7, AV.ptr 1 0), (8, AV.ptr 4 0)] [(0, .cells [Lz v1, Lz v2, Iz v3]), (1, .cells [Lz v11, Iz v16]), (2, .grow (flatA (List.map api_Edge.av v14))), (3, .grow (List.map (AV.int .i64) v15)), (4, .cells [Iz v13, AV.slc 2 0 3 v14.length false, AV.slc 3 0 1 v15.length false])] 5 (by simp [F5]) (by simp [F5]) ?_
     refine AW.frz 2 (o := .grow (flatA (List.map api_Edge.av v14))) (by simp [F5]) rfl [] [(4, .cells [Iz v13, AV.lst false false (List.map api_Edge.av v14), AV.slc 3 0 1 v15.length false])] trivial ⟨⟨by simp, AObj.cells [Iz v13, AV.slc 2 0 3 v14.length false, AV.slc 3 0 1 v15.length false], by simp [F5], (.mk (.cons (.same _) (.cons (.l (by simp) (by simp) (by simp) (by simp)) (.cons (.same _) .nil))))⟩, trivial⟩ ?_
     refine AW.frz 3 (o := .grow (List.map (AV.int .i64) v15)) (by simp [F5]) rfl [] [(4, .cells [Iz v13, AV.lst false false (List.map api_Edge.av v14), Lz v15])] trivial ⟨⟨by simp, AObj.cells [Iz v13, AV.lst false false (List.map api_Edge.av v14), AV.slc 3 0 1 v15.length false], by simp [F5], (.mk (.cons (.same _) (.cons (.same _) (.cons (.l (by simp) (by simp) (by simp) (by simp)) .nil))))⟩, trivial⟩ ?_
     refine WK [(2, Lz v4), (4, AV.ptr 0 0), (7, AV.ptr 1 0), (8, AV.ptr 4 0)] [(0, .cells [Lz v1, Lz v2, Iz v3]), (1, .cells [Lz v11, Iz v16]), (4, .cells [Iz v13, AV.lst false false (List.map api_Edge.av v14), Lz v15])] 5 (by simp [F5]) (by simp [F5]) ?_
     refine AW.seq fun K157 hK157 => ?_
     refine SQ [] [none, none, none, none, none, none, none, none, none, none] fun _ _ g r => ?_
     try simp [F5]
     and_intros <;> first | exact g _ (by kernel_rfl) | refine r _ _ _ ?_ | omega | (simp [maxLen, F5] <;> omega)
     refine WK [(2, Lz v4), (4, AV.ptr 0 0), (7, AV.ptr 1 0), (8, AV.ptr 4 0), (43, AV.lst false true (List.map (AV.int .i64) ([-1, 0, 1, 7, 8, 100, (v2.length : Int), IntKind.wrap .i64 ((v2.length : Int) - 1)] : List Int))), (44, Iz (([-1, 0, 1, 7, 8, 100, (v2.length : Int), IntKind.wrap .i64 ((v2.length : Int) - 1)] : List Int).length : Int)), (45, Iz 0)] [(0, .cells [Lz v1, Lz v2, Iz v3]), (1, .cells [Lz v11, Iz v16]), (4, .cells [Iz v13, AV.lst false false (List.map api_Edge.av v14), Lz v15])] 5 (by simp [F5]) (by simp [F5]) ?_
     refine AW.block ?_
     refine RM h0 [(0, 0), (1, 1), (2, 4)] [(2, Lz v4), (4, AV.ptr 0 0), (7, AV.ptr 1 0), (8, AV.ptr 2 0), (43, AV.lst false true (List.map (AV.int .i64) ([-1, 0, 1, 7, 8, 100, (v2.length : Int), IntKind.wrap .i64 ((v2.length : Int) - 1)] : List Int))), (44, Iz (([-1, 0, 1, 7, 8, 100, (v2.length : Int), IntKind.wrap .i64 ((v2.length : Int) - 1)] : List Int).length : Int)), (45, Iz 0)] [(0, .cells [Lz v1, Lz v2, Iz v3]), (1, .cells [Lz v11, Iz v16]), (2, .cells [Iz v13, AV.lst false false (List.map api_Edge.av v14), Lz v15])] 3 (by simp [F5]) (by simp [F5]) ?_
     refine AW.loopF (α := Int) (fun n v17 => law13_CapacityRaw.L1 k v1 v2 v3 v4 v11 v13 v14 v15 v16 n v17 = some v5) (fun v17 => [(2, Lz v4), (4, AV.ptr 0 0), (7, AV.ptr 1 0), (8, AV.ptr 2 0), (43, AV.lst false true (List.map (AV.int .i64) ([-1, 0, 1, 7, 8, 100, (v2.length : Int), IntKind.wrap .i64 ((v2.length : Int) - 1)] : List Int))), (44, Iz (([-1, 0, 1, 7, 8, 100, (v2.length : Int), IntKind.wrap .i64 ((v2.length : Int) - 1)] : List Int).length : Int)), (45, Iz v17)]) (fun v17 => [(0, .cells [Lz v1, Lz v2, Iz v3]), (1, .cells [Lz v11, Iz v16]), (2, .cells [Iz v13, AV.lst false false (List.map api_Edge.av v14), Lz v15])]) 3 k (0) hF (by simp [F5]) (by simp [F5]) (by simp) ?_
     rintro (_|n1) v17 hF K189 hK189
     ·try dsimp only at hF
      rw [law13_CapacityRaw.L1] at hF; cases hF
     try dsimp only at hF
     rw [law13_CapacityRaw.L1] at hF
     refine SQ [] [none] fun _ _ g r => ?_
     try simp [F5]
     and_intros <;> first | exact g _ (by kernel_rfl) | refine r _ _ _ ?_ | omega | (simp [maxLen, F5] <;> omega)
     refine WK [(2, Lz v4), (4, AV.ptr 0 0), (7, AV.ptr 1 0), (8, AV.ptr 2 0), (43, AV.lst false true (List.map (AV.int .i64) ([-1, 0, 1, 7, 8, 100, (v2.length : Int), IntKind.wrap .i64 ((v2.length : Int) - 1)] : List Int))), (44, Iz (([-1, 0, 1, 7, 8, 100, (v2.length : Int), IntKind.wrap .i64 ((v2.length : Int) - 1)] : List Int).length : Int)), (45, Iz v17), (46, AV.bool (decide (v17 < (([-1, 0, 1, 7, 8, 100, (v2.length : Int), IntKind.wrap .i64 ((v2.length : Int) - 1)] : List Int).length : Int))))] [(0, .cells [Lz v1, Lz v2, Iz v3]), (1, .cells [Lz v11, Iz v16]), (2, .cells [Iz v13, AV.lst false false (List.map api_Edge.av v14), Lz v15])] 3 (by simp [F5]) (by simp [F5]) ?_
     refine AW.seq fun K191 hK191 => ?_
     by_cases h12 : v17 < (([-1, 0, 1, 7, 8, 100, (v2.length : Int), IntKind.wrap .i64 ((v2.length : Int) - 1)] : List Int).length : Int)
     ·replace hF := ite_t h12 hF
      have h12_ := h12
      try simp at h12_
      have F6 := And.intro F5 (And.intro h12 h12_)
      refine CT (by simp [F6] <;> omega) ?_
      refine AW.skip ?_
      refine hK191 _ _ _ ?_
      refine AW.seq fun K195 hK195 => ?_
      refine AW.block ?_
      refine SQ [] [none, none, none] fun _ _ g r => ?_
      obtain ⟨v18, h13, h14, h15, hF⟩ := idx_elim hF
      have h15_ := get_of h15
      try simp at h15_
      have h14_ := h14
      try simp at h14_
      have h15__ := get_of (map_get ((AV.int .i64)) h15)
      try simp at h15__
      have F7 := And.intro F6 (And.intro h13 (And.intro h14 (And.intro h15 (And.intro h15_ (And.intro h14_ h15__)))))
      try simp [F7]
      and_intros <;> first | exact g _ (by kernel_rfl) | refine r _ _ _ ?_ | omega | (simp [maxLen, F7] <;> omega)
      refine WK [(2, Lz v4), (4, AV.ptr 0 0), (7, AV.ptr 1 0), (8, AV.ptr 2 0), (10, Iz v18), (43, AV.lst false true (List.map (AV.int .i64) ([-1, 0, 1, 7, 8, 100, (v2.length : Int), IntKind.wrap .i64 ((v2.length : Int) - 1)] : List Int))), (44, Iz (([-1, 0, 1, 7, 8, 100, (v2.length : Int), IntKind.wrap .i64 ((v2.length : Int) - 1)] : List Int).length : Int)), (45, Iz v17)] [(0, .cells [Lz v1, Lz v2, Iz v3]), (1, .cells [Lz v11, Iz v16]), (2, .cells [Iz v13, AV.lst false false (List.map api_Edge.av v14), Lz v15])] 3 (by simp [F7]) (by simp [F7]) ?_
      refine SQ [] [none, none, none, none, none, none, none] fun _ _ g r => ?_
      try simp [F7]
      and_intros
      try any_goals first | omega | (simp [maxLen, F7] <;> omega)
      obtain ⟨v19, h16, hF⟩ := bnd1_elim hF
      refine AC (w_capacity_Of k _ _ _ _ _ h16) (.cons (.same (by simp [F7])) (.cons (.same (by simp [F7])) .nil)) ?_
      try simp [F7]
      and_intros
      try any_goals first | omega | (simp [maxLen, F7] <;> omega)
      obtain ⟨v20, h17, hF⟩ := bnd1_elim hF
      refine AC (w_ref13_Of k _ _ _ _ _ h17) (.cons (.same (by simp [F7])) (.cons (.same (by simp [F7])) .nil)) ?_
      try simp [F7]
      and_intros <;> first | exact g _ (by kernel_rfl) | refine r _ _ _ ?_ | omega | (simp [maxLen, F7] <;> omega)
      refine WK [(2, Lz v4), (4, AV.ptr 0 0), (7, AV.ptr 1 0), (8, AV.ptr 2 0), (43, AV.lst false true (List.map (AV.int .i64) ([-1, 0, 1, 7, 8, 100, (v2.length : Int), IntKind.wrap .i64 ((v2.length : Int) - 1)] : List Int))), (44, Iz (([-1, 0, 1, 7, 8, 100, (v2.length : Int), IntKind.wrap .i64 ((v2.length : Int) - 1)] : List Int).length : Int)), (45, Iz v17), (55, AV.bool (v19 != v20))] [(0, .cells [Lz v1, Lz v2, Iz v3]), (1, .cells [Lz v11, Iz v16]), (2, .cells [Iz v13, AV.lst false false (List.map api_Edge.av v14), Lz v15])] 3 (by simp [F7]) (by simp [F7]) ?_
      by_cases h18 : v19 ≠ v20
      ·replace hF := ite_t h18 hF
       have h18_ := eqb_f h18
       have h18__ := neb_t h18
       have F8 := And.intro F7 (And.intro h18 (And.intro h18_ h18__))
       refine CT (by simp [F8] <;> omega) ?_
       refine SQ [] [none] fun _ _ g r => ?_
       try simp [F8]
       and_intros <;> first | exact g _ (by kernel_rfl) | refine r _ _ _ ?_ | omega | (simp [maxLen, F8] <;> omega)
       refine WK [(6, AV.bool false)] [] 3 (by simp [F8]) (by simp [F8]) ?_
       simp only [Option.some.injEq] at hF
       subst hF
       refine AW.ret (hQ _ _ _ ?_ (matchO_0 ?_)).1
       ·simp [Try.f3, F8]
       ·simp [F8]
      ·replace hF := ite_f h18 hF
       have h18q : v19 = v20 := Classical.not_not.1 h18
       have h18_ := eqb_t h18q
       have h18__ := neb_f h18q
       have F9 := And.intro F7 (And.intro h18_ h18__)
       refine CF (by simp [F9] <;> omega) ?_
       refine AW.skip ?_
       refine hK195 _ _ _ ?_
       refine RG [] [none, none] fun _ _ g r => ?_
       try simp [F9]
       and_intros <;> first | exact g _ (by kernel_rfl) | refine r _ _ _ ?_ | omega | (simp [maxLen, F9] <;> omega)
       refine hK189 _ _ _ ?_
       exact NX (k' := n1) (IntKind.wrap .i64 (v17 + 1)) hF (by simp [F9]) (by simp [F9])
     ·replace hF := ite_f h12 hF
      have h12_ := h12
      try simp at h12_
      have F10 := And.intro F5 (And.intro h12 h12_)
      refine CF (by simp [F10] <;> omega) ?_
      refine AW.exit ?_
      try simp
      refine hK157 _ _ _ ?_
      refine SQ [] [none, none, some (58, true), some (58, true), some (58, true), some (58, true), none, none, some (64, true), some (64, true), some (64, true), some (64, true), some (64, true), some (64, true), none, none] fun _ _ g r => ?_
      try simp [F10]
      and_intros
      try any_goals first | omega | (simp [maxLen, F10] <;> omega)
      obtain ⟨v21, h19, hF⟩ := bnd1_elim hF
      refine AC (w_law13_awake k _ h19) .nil ?_
      by_cases h20 : v21 = true
      ·replace hF := ite_t h20 hF
       have h20_ := h20
       try simp at h20_
       have F11 := And.intro F10 (And.intro h20 h20_)
       try simp [F11]
       and_intros
       try any_goals first | omega | (simp [maxLen, F11] <;> omega)
       obtain ⟨v22, h21, hF⟩ := bnd1_elim hF
       refine AC (w_law13_agree k _ _ _ _ _ _ _ _ h21) (.cons (.same (by simp [F11])) (.cons (.same (by simp [F11])) (.cons (.same (by simp [F11])) .nil))) ?_
       by_cases h22 : v22 = true
       ·replace hF := ite_t h22 hF
        have h22_ := h22
        try simp at h22_
        have F12 := And.intro F11 (And.intro h22 h22_)
        try simp [F12]
        and_intros
        try any_goals first | omega | (simp [maxLen, F12] <;> omega)
        obtain ⟨v23, v24, v25, v26, h23, hF⟩ := bnd4_elim hF
        refine aCall_l (w_made_Dice_Policy k _ _ _ _ _ _ _ _ _ h23) (by simp) [1] [] [1] rfl (.cons (.same (by simp [F12])) (.cons (.same (by simp [F12])) .nil)) (by simp [F12]) (by decide) (by simp) (by simp) (.inl rfl) (by simp) (by simp) ?_
        try simp [F12]
        and_intros
        try any_goals first | omega | (simp [maxLen, F12] <;> omega)
        obtain ⟨v27, h24, hF⟩ := bnd1_elim hF
        refine aCall_l (w_law13_agree k _ _ _ _ _ _ _ _ h24) (by simp) [] [3] [] rfl (.cons (.same (by simp [F12])) (.cons (.agg (.cons (.same (by simp [F12])) (.cons (Coe.l (o := .grow (List.map (AV.int .i64) v24)) (by simp [F12]) rfl (by simp [F12]) (by simp [noIdsL]) (by simp [F12]) (by simp [F12])) (.cons (.same (by simp [F12])) .nil)))) (.cons (.same (by simp [F12])) .nil))) (by simp [F12]) (by decide) (by simp) (by simp) (.inr ⟨by simp, by simp⟩) (by simp) (by simp) ?_
        try simp [F12]
        and_intros <;> first | exact g _ (by kernel_rfl) | refine r _ _ _ ?_ | omega | (simp [maxLen, F12] <;> omega)
        refine WK [(6, AV.bool v27)] [] 4 (by simp [F12]) (by simp [F12]) ?_
        simp only [Option.some.injEq] at hF
        subst hF
        refine AW.ret (hQ _ _ _ ?_ (matchO_0 ?_)).1
        ·simp [Try.f3, F12]
        ·simp [F12]
       ·replace hF := ite_f h22 hF
        have h22_ := h22
        try simp at h22_
        have F13 := And.intro F11 (And.intro h22 h22_)
        try simp [F13]
        and_intros <;> first | exact g _ (by kernel_rfl) | refine r _ _ _ ?_ | omega | (simp [maxLen, F13] <;> omega)
        refine WK [(6, AV.bool false)] [] 3 (by simp [F13]) (by simp [F13]) ?_
        simp only [Option.some.injEq] at hF
        subst hF
        refine AW.ret (hQ _ _ _ ?_ (matchO_0 ?_)).1
        ·simp [Try.f3, F13]
        ·simp [F13]
      ·replace hF := ite_f h20 hF
       have h20_ := h20
       try simp at h20_
       have F14 := And.intro F10 (And.intro h20 h20_)
       try simp [F14]
       and_intros <;> first | exact g _ (by kernel_rfl) | refine r _ _ _ ?_ | omega | (simp [maxLen, F14] <;> omega)
       refine WK [(6, AV.bool false)] [] 3 (by simp [F14]) (by simp [F14]) ?_
       simp only [Option.some.injEq] at hF
       subst hF
       refine AW.ret (hQ _ _ _ ?_ (matchO_0 ?_)).1
       ·simp [Try.f3, F14]
       ·simp [F14]
end Go.TF
