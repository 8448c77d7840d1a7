/- Walks: the Go text computes the Lean functions (printed by a program of our own). -/
import Derived.Test.YteclncnknklkfaaPaPu
import Derived.Test.YteclncnknklkfaaPaAbsT
import Derived.Test.YteclncnknklkfaaPaWa0
import Derived.Test.YteclncnknklkfaaPaWa1
import Derived.Test.YteclncnknklkfaaPaWa2
import Derived.Test.YteclncnknklkfaaPaWa3
set_option linter.unusedVariables false
set_option linter.unusedSimpArgs false
set_option maxRecDepth 100000
set_option maxHeartbeats 4000000
namespace Go.TF
open Go Go.Abs Go.Proofs Go.Proofs.YteclncnknklkfaaPaT
theorem w_ref23_SameDraft (k : Nat) (v0 : Int) (v1 : Int) (v2 : Int) (v3 : Int) (v4 : (List Int)) (v5 : (List api_Pin)) (v6 : Int) (v7 : Int) (v8 : Int) (v9 : Int) (v10 : (List Int)) (v11 : (List api_Pin)) (v12 : Bool) (hF : ref23_SameDraft k v0 v1 v2 v3 v4 v5 v6 v7 v8 v9 v10 v11 = some v12) :
  FCall Try.prog 23 [AV.agg [AV.int .i64 v0, AV.int .i64 v1, AV.int .i64 v2, AV.int .i64 v3, AV.lst false false (List.map (AV.int .i64) v4), AV.lst false false (List.map api_Pin.av v5)], AV.agg [AV.int .i64 v6, AV.int .i64 v7, AV.int .i64 v8, AV.int .i64 v9, AV.lst false false (List.map (AV.int .i64) v10), AV.lst false false (List.map api_Pin.av v11)]] [] (AV.bool v12) [] := by
 unfold ref23_SameDraft at hF
 refine EN Try.func23 ?_
 intro c0 w0 Q h0 hQ
 refine WK [(0, AV.agg [Iz v0, Iz v1, Iz v2, Iz v3, Lz v4, AV.lst false false (List.map api_Pin.av v5)]), (1, AV.agg [Iz v6, Iz v7, Iz v8, Iz v9, Lz v10, AV.lst false false (List.map api_Pin.av v11)])] [] 0 (by simp) (by simp) ?_
 refine SQ [] [none, none, none] fun _ _ g r => ?_
 try simp
 and_intros <;> first | exact g _ (by kernel_rfl) | refine r _ _ _ ?_ | omega | (simp [maxLen] <;> omega)
 refine WK [(2, AV.ptr 0 0), (3, AV.ptr 1 0)] [(0, .cells [Iz v0, Iz v1, Iz v2, Iz v3, Lz v4, AV.lst false false (List.map api_Pin.av v5)]), (1, .cells [Iz v6, Iz v7, Iz v8, Iz v9, Lz v10, AV.lst false false (List.map api_Pin.av v11)])] 2 (by simp) (by simp) ?_
 refine SQ [] [none, none, none, none, none, none, some (10, true), some (10, true), some (10, true), some (10, true), some (10, true), none, none, some (17, true), some (17, true), some (17, true), some (17, true), some (17, true), none, none, some (24, true), some (24, true), some (24, true), some (24, true), some (24, true), none, none, some (31, true), some (31, true), some (31, true), some (31, true), some (31, true), some (31, true), some (31, true), some (31, true), some (31, true), some (31, true), some (31, true), some (31, true), none, none] fun _ _ g r => ?_
 by_cases h1 : v0 = v6
 ·replace hF := ite_t h1 hF
  have h1q : v0 = v6 := h1
  have h1_ := eqb_t h1q
  have h1__ := neb_f h1q
  by_cases h2 : v1 = v7
  ·replace hF := ite_t h2 hF
   have h2q : v1 = v7 := h2
   have h2_ := eqb_t h2q
   have h2__ := neb_f h2q
   by_cases h3 : v2 = v8
   ·replace hF := ite_t h3 hF
    have h3q : v2 = v8 := h3
    have h3_ := eqb_t h3q
    have h3__ := neb_f h3q
    by_cases h4 : v3 = v9
    ·replace hF := ite_t h4 hF
     have h4q : v3 = v9 := h4
     have h4_ := eqb_t h4q
     have h4__ := neb_f h4q
     have F1 := And.intro h1_ (And.intro h1__ (And.intro h2_ (And.intro h2__ (And.intro h3_ (And.intro h3__ (And.intro h4_ h4__))))))
     try simp [F1]
     and_intros
     try any_goals first | omega | (simp [maxLen, F1] <;> omega)
     obtain ⟨v13, h5, hF⟩ := bnd1_elim hF
     refine AC (w_ref23_Order k _ _ _ _ _ h5) (.cons (.same (by simp [F1])) (.cons (.same (by simp [F1])) .nil)) ?_
     try simp [F1]
     and_intros <;> first | exact g _ (by kernel_rfl) | refine r _ _ _ ?_ | omega | (simp [maxLen, F1] <;> omega)
     refine WK [(4, AV.bool (v13 == 0))] [] 2 (by simp [F1]) (by simp [F1]) ?_
     simp only [Option.some.injEq] at hF
     subst hF
     refine AW.ret (hQ _ _ _ ?_ (matchO_0 ?_)).1
     ·simp [Try.f23, F1]
     ·simp [F1]
    ·replace hF := ite_f h4 hF
     have h4_ := eqb_f h4
     have h4__ := neb_t h4
     have F2 := And.intro h1_ (And.intro h1__ (And.intro h2_ (And.intro h2__ (And.intro h3_ (And.intro h3__ (And.intro h4 (And.intro h4_ h4__)))))))
     try simp [F2]
     and_intros <;> first | exact g _ (by kernel_rfl) | refine r _ _ _ ?_ | omega | (simp [maxLen, F2] <;> omega)
     refine WK [(4, AV.bool false)] [] 2 (by simp [F2]) (by simp [F2]) ?_
     simp only [Option.some.injEq] at hF
     subst hF
     refine AW.ret (hQ _ _ _ ?_ (matchO_0 ?_)).1
     ·simp [Try.f23, F2]
     ·simp [F2]
   ·replace hF := ite_f h3 hF
    have h3_ := eqb_f h3
    have h3__ := neb_t h3
    have F3 := And.intro h1_ (And.intro h1__ (And.intro h2_ (And.intro h2__ (And.intro h3 (And.intro h3_ h3__)))))
    try simp [F3]
    and_intros <;> first | exact g _ (by kernel_rfl) | refine r _ _ _ ?_ | omega | (simp [maxLen, F3] <;> omega)
    refine WK [(4, AV.bool false)] [] 2 (by simp [F3]) (by simp [F3]) ?_
    simp only [Option.some.injEq] at hF
    subst hF
    refine AW.ret (hQ _ _ _ ?_ (matchO_0 ?_)).1
    ·simp [Try.f23, F3]
    ·simp [F3]
  ·replace hF := ite_f h2 hF
   have h2_ := eqb_f h2
   have h2__ := neb_t h2
   have F4 := And.intro h1_ (And.intro h1__ (And.intro h2 (And.intro h2_ h2__)))
   try simp [F4]
   and_intros <;> first | exact g _ (by kernel_rfl) | refine r _ _ _ ?_ | omega | (simp [maxLen, F4] <;> omega)
   refine WK [(4, AV.bool false)] [] 2 (by simp [F4]) (by simp [F4]) ?_
   simp only [Option.some.injEq] at hF
   subst hF
   refine AW.ret (hQ _ _ _ ?_ (matchO_0 ?_)).1
   ·simp [Try.f23, F4]
   ·simp [F4]
 ·replace hF := ite_f h1 hF
  have h1_ := eqb_f h1
  have h1__ := neb_t h1
  have F5 := And.intro h1 (And.intro h1_ h1__)
  try simp [F5]
  and_intros <;> first | exact g _ (by kernel_rfl) | refine r _ _ _ ?_ | omega | (simp [maxLen, F5] <;> omega)
  refine WK [(4, AV.bool false)] [] 2 (by simp [F5]) (by simp [F5]) ?_
  simp only [Option.some.injEq] at hF
  subst hF
  refine AW.ret (hQ _ _ _ ?_ (matchO_0 ?_)).1
  ·simp [Try.f23, F5]
  ·simp [F5]
theorem w_cmp_isNaN_int (k : Nat) (v0 : Int) (v1 : Bool) (hF : cmp_isNaN_int k v0 = some v1) :
  FCall Try.prog 61 [AV.int .i64 v0] [] (AV.bool v1) [] := by
 unfold cmp_isNaN_int at hF
 refine EN Try.func61 ?_
 intro c0 w0 Q h0 hQ
 refine WK [(0, Iz v0)] [] 0 (by simp) (by simp) ?_
 refine SQ [] [none] fun _ _ g r => ?_
 try simp
 and_intros <;> first | exact g _ (by kernel_rfl) | refine r _ _ _ ?_ | omega | (simp [maxLen] <;> omega)
 refine WK [(0, Iz v0)] [] 0 (by simp) (by simp) ?_
 refine SQ [] [none, none, none, none] fun _ _ g r => ?_
 try simp
 and_intros <;> first | exact g _ (by kernel_rfl) | refine r _ _ _ ?_ | omega | (simp [maxLen] <;> omega)
 refine WK [(2, AV.bool (v0 != v0))] [] 0 (by simp) (by simp) ?_
 simp only [Option.some.injEq] at hF
 subst hF
 refine AW.ret (hQ _ _ _ ?_ (matchO_0 ?_)).1
 ·simp [Try.f61]
 ·simp
theorem w_cmp_Compare_int (k : Nat) (v0 : Int) (v1 : Int) (v2 : Int) (hF : cmp_Compare_int k v0 v1 = some v2) :
  FCall Try.prog 46 [AV.int .i64 v0, AV.int .i64 v1] [] (AV.int .i64 v2) [] := by
 unfold cmp_Compare_int at hF
 refine EN Try.func46 ?_
 intro c0 w0 Q h0 hQ
 refine WK [(0, Iz v0), (1, Iz v1)] [] 0 (by simp) (by simp) ?_
 refine SQ [] [none] fun _ _ g r => ?_
 try simp
 and_intros <;> first | exact g _ (by kernel_rfl) | refine r _ _ _ ?_ | omega | (simp [maxLen] <;> omega)
 refine WK [(0, Iz v0), (1, Iz v1)] [] 0 (by simp) (by simp) ?_
 refine SQ [] [none, none, none] fun _ _ g r => ?_
 try simp
 and_intros
 try any_goals first | omega | (simp [maxLen] <;> omega)
 obtain ⟨v3, h1, hF⟩ := bnd1_elim hF
 refine AC (w_cmp_isNaN_int k _ _ h1) (.cons (.same (by simp)) .nil) ?_
 try simp
 and_intros <;> first | exact g _ (by kernel_rfl) | refine r _ _ _ ?_ | omega | (simp [maxLen] <;> omega)
 refine WK [(0, Iz v0), (1, Iz v1), (5, AV.bool v3)] [] 0 (by simp) (by simp) ?_
 refine SQ [] [none, none, none] fun _ _ g r => ?_
 try simp
 and_intros
 try any_goals first | omega | (simp [maxLen] <;> omega)
 obtain ⟨v4, h2, hF⟩ := bnd1_elim hF
 refine AC (w_cmp_isNaN_int k _ _ h2) (.cons (.same (by simp)) .nil) ?_
 try simp
 and_intros <;> first | exact g _ (by kernel_rfl) | refine r _ _ _ ?_ | omega | (simp [maxLen] <;> omega)
 refine WK [(0, Iz v0), (1, Iz v1), (5, AV.bool v3), (6, AV.bool v4)] [] 0 (by simp) (by simp) ?_
 refine AW.seq fun K45 hK45 => ?_
 refine SQ [] [none] fun _ _ g r => ?_
 try simp
 and_intros <;> first | exact g _ (by kernel_rfl) | refine r _ _ _ ?_ | omega | (simp [maxLen] <;> omega)
 refine WK [(0, Iz v0), (1, Iz v1), (6, AV.bool v4), (11, AV.bool v3)] [] 0 (by simp) (by simp) ?_
 by_cases h3 : v3 = true
 ·replace hF := ite_t h3 hF
  have h3_ := h3
  try simp at h3_
  refine CT (by simp [h3, h3_] <;> omega) ?_
  refine AW.seq fun K49 hK49 => ?_
  refine SQ [] [none] fun _ _ g r => ?_
  try simp [h3, h3_]
  and_intros <;> first | exact g _ (by kernel_rfl) | refine r _ _ _ ?_ | omega | (simp [h3, h3_, maxLen] <;> omega)
  refine WK [(12, AV.bool v4)] [] 0 (by simp [h3, h3_]) (by simp [h3, h3_]) ?_
  by_cases h4 : v4 = true
  ·replace hF := ite_t h4 hF
   have h4_ := h4
   try simp at h4_
   have F1 := And.intro h3 (And.intro h3_ (And.intro h4 h4_))
   refine CT (by simp [F1] <;> omega) ?_
   refine SQ [] [none] fun _ _ g r => ?_
   try simp [F1]
   and_intros <;> first | exact g _ (by kernel_rfl) | refine r _ _ _ ?_ | omega | (simp [maxLen, F1] <;> omega)
   refine WK [(4, Iz 0)] [] 0 (by simp [F1]) (by simp [F1]) ?_
   simp only [Option.some.injEq] at hF
   subst hF
   refine AW.ret (hQ _ _ _ ?_ (matchO_0 ?_)).1
   ·simp [Try.f46, F1]
   ·simp [F1]
  ·replace hF := ite_f h4 hF
   have h4_ := h4
   try simp at h4_
   have F2 := And.intro h3 (And.intro h3_ (And.intro h4 h4_))
   refine CF (by simp [F2] <;> omega) ?_
   refine AW.skip ?_
   refine hK49 _ _ _ ?_
   refine SQ [] [none] fun _ _ g r => ?_
   try simp [F2]
   and_intros <;> first | exact g _ (by kernel_rfl) | refine r _ _ _ ?_ | omega | (simp [maxLen, F2] <;> omega)
   refine WK [(4, Iz (-1))] [] 0 (by simp [F2]) (by simp [F2]) ?_
   simp only [Option.some.injEq] at hF
   subst hF
   refine AW.ret (hQ _ _ _ ?_ (matchO_0 ?_)).1
   ·simp [Try.f46, F2]
   ·simp [F2]
 ·replace hF := ite_f h3 hF
  have h3_ := h3
  try simp at h3_
  refine CF (by simp [h3, h3_] <;> omega) ?_
  refine AW.skip ?_
  refine hK45 _ _ _ ?_
  refine AW.seq fun K55 hK55 => ?_
  refine SQ [] [none] fun _ _ g r => ?_
  try simp [h3, h3_]
  and_intros <;> first | exact g _ (by kernel_rfl) | refine r _ _ _ ?_ | omega | (simp [h3, h3_, maxLen] <;> omega)
  refine WK [(0, Iz v0), (1, Iz v1), (13, AV.bool v4)] [] 0 (by simp [h3, h3_]) (by simp [h3, h3_]) ?_
  by_cases h5 : v4 = true
  ·replace hF := ite_t h5 hF
   have h5_ := h5
   try simp at h5_
   have F3 := And.intro h3 (And.intro h3_ (And.intro h5 h5_))
   refine CT (by simp [F3] <;> omega) ?_
   refine SQ [] [none] fun _ _ g r => ?_
   try simp [F3]
   and_intros <;> first | exact g _ (by kernel_rfl) | refine r _ _ _ ?_ | omega | (simp [maxLen, F3] <;> omega)
   refine WK [(4, Iz 1)] [] 0 (by simp [F3]) (by simp [F3]) ?_
   simp only [Option.some.injEq] at hF
   subst hF
   refine AW.ret (hQ _ _ _ ?_ (matchO_0 ?_)).1
   ·simp [Try.f46, F3]
   ·simp [F3]
  ·replace hF := ite_f h5 hF
   have h5_ := h5
   try simp at h5_
   have F4 := And.intro h3 (And.intro h3_ (And.intro h5 h5_))
   refine CF (by simp [F4] <;> omega) ?_
   refine AW.skip ?_
   refine hK55 _ _ _ ?_
   refine AW.seq fun K60 hK60 => ?_
   refine SQ [] [none, none, none] fun _ _ g r => ?_
   try simp [F4]
   and_intros <;> first | exact g _ (by kernel_rfl) | refine r _ _ _ ?_ | omega | (simp [maxLen, F4] <;> omega)
   refine WK [(0, Iz v0), (1, Iz v1), (16, AV.bool (decide (v0 < v1)))] [] 0 (by simp [F4]) (by simp [F4]) ?_
   by_cases h6 : v0 < v1
   ·replace hF := ite_t h6 hF
    have h6_ := h6
    try simp at h6_
    have F5 := And.intro F4 (And.intro h6 h6_)
    refine CT (by simp [F5] <;> omega) ?_
    refine SQ [] [none] fun _ _ g r => ?_
    try simp [F5]
    and_intros <;> first | exact g _ (by kernel_rfl) | refine r _ _ _ ?_ | omega | (simp [maxLen, F5] <;> omega)
    refine WK [(4, Iz (-1))] [] 0 (by simp [F5]) (by simp [F5]) ?_
    simp only [Option.some.injEq] at hF
    subst hF
    refine AW.ret (hQ _ _ _ ?_ (matchO_0 ?_)).1
    ·simp [Try.f46, F5]
    ·simp [F5]
   ·replace hF := ite_f h6 hF
    have h6_ := h6
    try simp at h6_
    have F6 := And.intro F4 (And.intro h6 h6_)
    refine CF (by simp [F6] <;> omega) ?_
    refine AW.skip ?_
    refine hK60 _ _ _ ?_
    refine AW.seq fun K65 hK65 => ?_
    refine SQ [] [none, none, none] fun _ _ g r => ?_
    try simp [F6]
    and_intros <;> first | exact g _ (by kernel_rfl) | refine r _ _ _ ?_ | omega | (simp [maxLen, F6] <;> omega)
    refine WK [(19, AV.bool (decide (v1 < v0)))] [] 0 (by simp [F6]) (by simp [F6]) ?_
    by_cases h7 : v1 < v0
    ·replace hF := ite_t h7 hF
     have h7_ := h7
     try simp at h7_
     have F7 := And.intro F6 (And.intro h7 h7_)
     refine CT (by simp [F7] <;> omega) ?_
     refine SQ [] [none] fun _ _ g r => ?_
     try simp [F7]
     and_intros <;> first | exact g _ (by kernel_rfl) | refine r _ _ _ ?_ | omega | (simp [maxLen, F7] <;> omega)
     refine WK [(4, Iz 1)] [] 0 (by simp [F7]) (by simp [F7]) ?_
     simp only [Option.some.injEq] at hF
     subst hF
     refine AW.ret (hQ _ _ _ ?_ (matchO_0 ?_)).1
     ·simp [Try.f46, F7]
     ·simp [F7]
    ·replace hF := ite_f h7 hF
     have h7_ := h7
     try simp at h7_
     have F8 := And.intro F6 (And.intro h7 h7_)
     refine CF (by simp [F8] <;> omega) ?_
     refine AW.skip ?_
     refine hK65 _ _ _ ?_
     refine SQ [] [none] fun _ _ g r => ?_
     try simp [F8]
     and_intros <;> first | exact g _ (by kernel_rfl) | refine r _ _ _ ?_ | omega | (simp [maxLen, F8] <;> omega)
     refine WK [(4, Iz 0)] [] 0 (by simp [F8]) (by simp [F8]) ?_
     simp only [Option.some.injEq] at hF
     subst hF
     refine AW.ret (hQ _ _ _ ?_ (matchO_0 ?_)).1
     ·simp [Try.f46, F8]
     ·simp [F8]
theorem w_cases_order_int_Compare_int (k : Nat) (v0 : (List Int)) (v1 : (List Int)) (v2 : Int) (hF : cases_order_int_Compare_int k v0 v1 = some v2) :
  FCall Try.prog 45 [AV.lst false false (List.map (AV.int .i64) v0), AV.lst false false (List.map (AV.int .i64) v1), AV.fn 46 []] [] (AV.int .i64 v2) [] := by
 unfold cases_order_int_Compare_int at hF
 refine EN Try.func45 ?_
 intro c0 w0 Q h0 hQ
 refine WK [(0, Lz v0), (1, Lz v1), (2, AV.fn 46 [])] [] 0 (by simp) (by simp) ?_
 refine SQ [] [none] fun _ _ g r => ?_
 try simp
 and_intros <;> first | exact g _ (by kernel_rfl) | refine r _ _ _ ?_ | omega | (simp [maxLen] <;> omega)
 refine WK [(0, Lz v0), (1, Lz v1), (2, AV.fn 46 [])] [] 0 (by simp) (by simp) ?_
 refine AW.seq fun K155 hK155 => ?_
 refine SQ [] [none, none, none, none, none, none] fun _ _ g r => ?_
 obtain ⟨v3, h1, hF⟩ := let1_elim hF
 have h1_ := h1
 try simp at h1_
 try simp [h1, h1_]
 and_intros <;> first | exact g _ (by kernel_rfl) | refine r _ _ _ ?_ | omega | (simp [h1, h1_, maxLen] <;> omega)
 refine WK [(0, Lz v0), (1, Lz v1), (2, AV.fn 46 []), (13, Iz v3), (14, Iz 0)] [] 0 (by simp [h1, h1_]) (by simp [h1, h1_]) ?_
 refine AW.block ?_
 refine AW.loopF (α := Int) (fun n v4 => cases_order_int_Compare_int.L1 k v0 v1 v3 n v4 = some v2) (fun v4 => [(0, Lz v0), (1, Lz v1), (2, AV.fn 46 []), (13, Iz v3), (14, Iz v4)]) (fun v4 => []) 0 k (0) hF (by simp [h1, h1_]) (by simp [h1, h1_]) (by simp) ?_
 rintro (_|n1) v4 hF K193 hK193
 ·try dsimp only at hF
  rw [cases_order_int_Compare_int.L1] at hF; cases hF
 try dsimp only at hF
 rw [cases_order_int_Compare_int.L1] at hF
 refine SQ [] [none] fun _ _ g r => ?_
 try simp [h1, h1_]
 and_intros <;> first | exact g _ (by kernel_rfl) | refine r _ _ _ ?_ | omega | (simp [h1, h1_, maxLen] <;> omega)
 refine WK [(0, Lz v0), (1, Lz v1), (2, AV.fn 46 []), (13, Iz v3), (14, Iz v4), (15, AV.bool (decide (v4 < v3)))] [] 0 (by simp [h1, h1_]) (by simp [h1, h1_]) ?_
 refine AW.seq fun K195 hK195 => ?_
 by_cases h2 : v4 < v3
 ·replace hF := ite_t h2 hF
  have h2_ := h2
  try simp at h2_
  have F1 := And.intro h1 (And.intro h1_ (And.intro h2 h2_))
  refine CT (by simp [F1] <;> omega) ?_
  refine AW.skip ?_
  refine hK195 _ _ _ ?_
  refine AW.seq fun K200 hK200 => ?_
  refine AW.block ?_
  refine SQ [] [none, none] fun _ _ g r => ?_
  try simp [F1]
  and_intros <;> first | exact g _ (by kernel_rfl) | refine r _ _ _ ?_ | omega | (simp [maxLen, F1] <;> omega)
  refine WK [(0, Lz v0), (1, Lz v1), (2, AV.fn 46 []), (7, Iz v4), (13, Iz v3), (14, Iz v4)] [] 0 (by simp [F1]) (by simp [F1]) ?_
  refine SQ [] [none, none, none, none, none, none, none, none, none, none, none] fun _ _ g r => ?_
  obtain ⟨v5, h3, h4, h5, hF⟩ := idx_elim hF
  have h5_ := get_of h5
  try simp at h5_
  have h4_ := h4
  try simp at h4_
  obtain ⟨v6, h6, h7, h8, hF⟩ := idx_elim hF
  have h8_ := get_of h8
  try simp at h8_
  have h7_ := h7
  try simp at h7_
  have F2 := And.intro F1 (And.intro h3 (And.intro h4 (And.intro h5 (And.intro h5_ (And.intro h4_ (And.intro h6 (And.intro h7 (And.intro h8 (And.intro h8_ h7_)))))))))
  try simp [F2]
  and_intros
  try any_goals first | omega | (simp [maxLen, F2] <;> omega)
  obtain ⟨v7, h9, hF⟩ := bnd1_elim hF
  refine AC (w_cmp_Compare_int k _ _ _ h9) (.cons (.same (by simp [F2])) (.cons (.same (by simp [F2])) .nil)) ?_
  try simp [F2]
  and_intros <;> first | exact g _ (by kernel_rfl) | refine r _ _ _ ?_ | omega | (simp [maxLen, F2] <;> omega)
  refine WK [(0, Lz v0), (1, Lz v1), (2, AV.fn 46 []), (8, Iz v7), (13, Iz v3), (14, Iz v4)] [] 0 (by simp [F2]) (by simp [F2]) ?_
  refine SQ [] [none, none] fun _ _ g r => ?_
  try simp [F2]
  and_intros <;> first | exact g _ (by kernel_rfl) | refine r _ _ _ ?_ | omega | (simp [maxLen, F2] <;> omega)
  refine WK [(0, Lz v0), (1, Lz v1), (2, AV.fn 46 []), (8, Iz v7), (13, Iz v3), (14, Iz v4), (28, AV.bool (v7 != 0))] [] 0 (by simp [F2]) (by simp [F2]) ?_
  by_cases h10 : v7 ≠ 0
  ·replace hF := ite_t h10 hF
   have h10_ := eqb_f h10
   have h10__ := neb_t h10
   have F3 := And.intro F2 (And.intro h10 (And.intro h10_ h10__))
   refine CT (by simp [F3] <;> omega) ?_
   refine SQ [] [none, none] fun _ _ g r => ?_
   try simp [F3]
   and_intros <;> first | exact g _ (by kernel_rfl) | refine r _ _ _ ?_ | omega | (simp [maxLen, F3] <;> omega)
   refine WK [(6, Iz v7)] [] 0 (by simp [F3]) (by simp [F3]) ?_
   simp only [Option.some.injEq] at hF
   subst hF
   refine AW.ret (hQ _ _ _ ?_ (matchO_0 ?_)).1
   ·simp [Try.f45, F3]
   ·simp [F3]
  ·replace hF := ite_f h10 hF
   have h10q : v7 = 0 := Classical.not_not.1 h10
   have h10_ := eqb_t h10q
   have h10__ := neb_f h10q
   have F4 := And.intro F2 (And.intro h10_ (And.intro h10__ h10q))
   refine CF (by simp [F4] <;> omega) ?_
   refine AW.skip ?_
   refine hK200 _ _ _ ?_
   refine RG [] [none, none] fun _ _ g r => ?_
   try simp [F4]
   and_intros <;> first | exact g _ (by kernel_rfl) | refine r _ _ _ ?_ | omega | (simp [maxLen, F4] <;> omega)
   refine hK193 _ _ _ ?_
   exact NX (k' := n1) (IntKind.wrap .i64 (v4 + 1)) hF (by simp [F4]) (by simp [F4])
 ·replace hF := ite_f h2 hF
  have h2_ := h2
  try simp at h2_
  have F5 := And.intro h1 (And.intro h1_ (And.intro h2 h2_))
  refine CF (by simp [F5] <;> omega) ?_
  refine AW.exit ?_
  try simp
  refine hK155 _ _ _ ?_
  refine SQ [] [none, none, none, none, none, none] fun _ _ g r => ?_
  try simp [F5]
  and_intros
  try any_goals first | omega | (simp [maxLen, F5] <;> omega)
  obtain ⟨v8, h11, hF⟩ := bnd1_elim hF
  refine AC (w_cmp_Compare_int k _ _ _ h11) (.cons (.same (by simp [F5])) (.cons (.same (by simp [F5])) .nil)) ?_
  try simp [F5]
  and_intros <;> first | exact g _ (by kernel_rfl) | refine r _ _ _ ?_ | omega | (simp [maxLen, F5] <;> omega)
  refine WK [(6, Iz v8)] [] 0 (by simp [F5]) (by simp [F5]) ?_
  simp only [Option.some.injEq] at hF
  subst hF
  refine AW.ret (hQ _ _ _ ?_ (matchO_0 ?_)).1
  ·simp [Try.f45, F5]
  ·simp [F5]
theorem w_internal_bytealg_CompareString (k : Nat) (v0 : ByteArray) (v1 : ByteArray) (v2 : Int) (hF : internal_bytealg_CompareString k v0 v1 = some v2) :
  FCall Try.prog 67 [AV.str v0, AV.str v1] [] (AV.int .i64 v2) [] := by
 unfold internal_bytealg_CompareString at hF
 refine EN Try.func67 ?_
 intro c0 w0 Q h0 hQ
 refine WK [(0, AV.str v0), (1, AV.str v1)] [] 0 (by simp) (by simp) ?_
 refine SQ [] [none] fun _ _ g r => ?_
 try simp
 and_intros <;> first | exact g _ (by kernel_rfl) | refine r _ _ _ ?_ | omega | (simp [maxLen] <;> omega)
 refine WK [(0, AV.str v0), (1, AV.str v1)] [] 0 (by simp) (by simp) ?_
 refine SQ [] [none, none, none, none] fun _ _ g r => ?_
 try simp
 and_intros
 try any_goals first | omega | (simp [maxLen] <;> omega)
 refine aCall_cmp xcmp ?_
 try simp
 and_intros <;> first | exact g _ (by kernel_rfl) | refine r _ _ _ ?_ | omega | (simp [maxLen] <;> omega)
 refine WK [(4, Iz (Go.Extern.BytealgCompare.cmp v0 v1))] [] 0 (by simp) (by simp) ?_
 simp only [Option.some.injEq] at hF
 subst hF
 refine AW.ret (hQ _ _ _ ?_ (matchO_0 ?_)).1
 ·simp [Try.f67]
 ·simp
theorem w_strings_Compare (k : Nat) (v0 : ByteArray) (v1 : ByteArray) (v2 : Int) (hF : strings_Compare k v0 v1 = some v2) :
  FCall Try.prog 62 [AV.str v0, AV.str v1] [] (AV.int .i64 v2) [] := by
 unfold strings_Compare at hF
 refine EN Try.func62 ?_
 intro c0 w0 Q h0 hQ
 refine WK [(0, AV.str v0), (1, AV.str v1)] [] 0 (by simp) (by simp) ?_
 refine SQ [] [none] fun _ _ g r => ?_
 try simp
 and_intros <;> first | exact g _ (by kernel_rfl) | refine r _ _ _ ?_ | omega | (simp [maxLen] <;> omega)
 refine WK [(0, AV.str v0), (1, AV.str v1)] [] 0 (by simp) (by simp) ?_
 refine SQ [] [none, none, none, none] fun _ _ g r => ?_
 try simp
 and_intros
 try any_goals first | omega | (simp [maxLen] <;> omega)
 obtain ⟨v3, h1, hF⟩ := bnd1_elim hF
 refine AC (w_internal_bytealg_CompareString k _ _ _ h1) (.cons (.same (by simp)) (.cons (.same (by simp)) .nil)) ?_
 try simp
 and_intros <;> first | exact g _ (by kernel_rfl) | refine r _ _ _ ?_ | omega | (simp [maxLen] <;> omega)
 refine WK [(4, Iz v3)] [] 0 (by simp) (by simp) ?_
 simp only [Option.some.injEq] at hF
 subst hF
 refine AW.ret (hQ _ _ _ ?_ (matchO_0 ?_)).1
 ·simp [Try.f62]
 ·simp
theorem w_cmp_Or_int (k : Nat) (v0 : (List Int)) (v1 : Int) (hF : cmp_Or_int k v0 = some v1) :
  FCall Try.prog 44 [AV.lst false false (List.map (AV.int .i64) v0)] [] (AV.int .i64 v1) [] := by
 unfold cmp_Or_int at hF
 refine EN Try.func44 ?_
 intro c0 w0 Q h0 hQ
 refine WK [(0, Lz v0)] [] 0 (by simp) (by simp) ?_
 refine SQ [] [none] fun _ _ g r => ?_
 try simp
 and_intros <;> first | exact g _ (by kernel_rfl) | refine r _ _ _ ?_ | omega | (simp [maxLen] <;> omega)
 refine WK [(0, Lz v0)] [] 0 (by simp) (by simp) ?_
 refine SQ [] [none] fun _ _ g r => ?_
 try simp
 and_intros <;> first | exact g _ (by kernel_rfl) | refine r _ _ _ ?_ | omega | (simp [maxLen] <;> omega)
 refine WK [(0, Lz v0), (3, Iz 0)] [] 0 (by simp) (by simp) ?_
 refine AW.seq fun K133 hK133 => ?_
 refine SQ [] [none, none, none] fun _ _ g r => ?_
 try simp
 and_intros <;> first | exact g _ (by kernel_rfl) | refine r _ _ _ ?_ | omega | (simp [maxLen] <;> omega)
 refine WK [(3, Iz 0), (6, Lz v0), (7, Iz (v0.length : Int)), (8, Iz 0)] [] 0 (by simp) (by simp) ?_
 refine AW.block ?_
 refine AW.loopF (α := Int) (fun n v2 => cmp_Or_int.L1 k v0 n v2 = some v1) (fun v2 => [(3, Iz 0), (6, Lz v0), (7, Iz (v0.length : Int)), (8, Iz v2)]) (fun v2 => []) 0 k (0) hF (by simp) (by simp) (by simp) ?_
 rintro (_|n1) v2 hF K165 hK165
 ·try dsimp only at hF
  rw [cmp_Or_int.L1] at hF; cases hF
 try dsimp only at hF
 rw [cmp_Or_int.L1] at hF
 refine SQ [] [none] fun _ _ g r => ?_
 try simp
 and_intros <;> first | exact g _ (by kernel_rfl) | refine r _ _ _ ?_ | omega | (simp [maxLen] <;> omega)
 refine WK [(3, Iz 0), (6, Lz v0), (7, Iz (v0.length : Int)), (8, Iz v2), (9, AV.bool (decide (v2 < (v0.length : Int))))] [] 0 (by simp) (by simp) ?_
 refine AW.seq fun K167 hK167 => ?_
 by_cases h1 : v2 < (v0.length : Int)
 ·replace hF := ite_t h1 hF
  have h1_ := h1
  try simp at h1_
  refine CT (by simp [h1, h1_] <;> omega) ?_
  refine AW.skip ?_
  refine hK167 _ _ _ ?_
  refine AW.seq fun K171 hK171 => ?_
  refine AW.block ?_
  refine SQ [] [none, none, none] fun _ _ g r => ?_
  obtain ⟨v3, h2, h3, h4, hF⟩ := idx_elim hF
  have h4_ := get_of h4
  try simp at h4_
  have h3_ := h3
  try simp at h3_
  have F1 := And.intro h1 (And.intro h1_ (And.intro h2 (And.intro h3 (And.intro h4 (And.intro h4_ h3_)))))
  try simp [F1]
  and_intros <;> first | exact g _ (by kernel_rfl) | refine r _ _ _ ?_ | omega | (simp [maxLen, F1] <;> omega)
  refine WK [(3, Iz 0), (5, Iz v3), (6, Lz v0), (7, Iz (v0.length : Int)), (8, Iz v2)] [] 0 (by simp [F1]) (by simp [F1]) ?_
  refine SQ [] [none, none, none] fun _ _ g r => ?_
  try simp [F1]
  and_intros <;> first | exact g _ (by kernel_rfl) | refine r _ _ _ ?_ | omega | (simp [maxLen, F1] <;> omega)
  refine WK [(3, Iz 0), (5, Iz v3), (6, Lz v0), (7, Iz (v0.length : Int)), (8, Iz v2), (14, AV.bool (v3 != 0))] [] 0 (by simp [F1]) (by simp [F1]) ?_
  by_cases h5 : v3 ≠ 0
  ·replace hF := ite_t h5 hF
   have h5_ := eqb_f h5
   have h5__ := neb_t h5
   have F2 := And.intro F1 (And.intro h5 (And.intro h5_ h5__))
   refine CT (by simp [F2] <;> omega) ?_
   refine SQ [] [none, none] fun _ _ g r => ?_
   try simp [F2]
   and_intros <;> first | exact g _ (by kernel_rfl) | refine r _ _ _ ?_ | omega | (simp [maxLen, F2] <;> omega)
   refine WK [(2, Iz v3)] [] 0 (by simp [F2]) (by simp [F2]) ?_
   simp only [Option.some.injEq] at hF
   subst hF
   refine AW.ret (hQ _ _ _ ?_ (matchO_0 ?_)).1
   ·simp [Try.f44, F2]
   ·simp [F2]
  ·replace hF := ite_f h5 hF
   have h5q : v3 = 0 := Classical.not_not.1 h5
   have h5_ := eqb_t h5q
   have h5__ := neb_f h5q
   have F3 := And.intro F1 (And.intro h5_ (And.intro h5__ h5q))
   refine CF (by simp [F3] <;> omega) ?_
   refine AW.skip ?_
   refine hK171 _ _ _ ?_
   refine RG [] [none, none] fun _ _ g r => ?_
   try simp [F3]
   and_intros <;> first | exact g _ (by kernel_rfl) | refine r _ _ _ ?_ | omega | (simp [maxLen, F3] <;> omega)
   refine hK165 _ _ _ ?_
   exact NX (k' := n1) (IntKind.wrap .i64 (v2 + 1)) hF (by simp [F3]) (by simp [F3])
 ·replace hF := ite_f h1 hF
  have h1_ := h1
  try simp at h1_
  refine CF (by simp [h1, h1_] <;> omega) ?_
  refine AW.exit ?_
  try simp
  refine hK133 _ _ _ ?_
  refine SQ [] [none, none] fun _ _ g r => ?_
  try simp [h1, h1_]
  and_intros <;> first | exact g _ (by kernel_rfl) | refine r _ _ _ ?_ | omega | (simp [h1, h1_, maxLen] <;> omega)
  refine WK [(2, Iz 0)] [] 0 (by simp [h1, h1_]) (by simp [h1, h1_]) ?_
  simp only [Option.some.injEq] at hF
  subst hF
  refine AW.ret (hQ _ _ _ ?_ (matchO_0 ?_)).1
  ·simp [Try.f44, h1, h1_]
  ·simp [h1, h1_]
theorem w_cases_pin (k : Nat) (v0 : Int) (v1 : Int) (v2 : ByteArray) (v3 : Int) (v4 : Int) (v5 : ByteArray) (v6 : Int) (hF : cases_pin k v0 v1 v2 v3 v4 v5 = some v6) :
  FCall Try.prog 48 [AV.agg [AV.int .i64 v0, AV.int .i64 v1, AV.str v2], AV.agg [AV.int .i64 v3, AV.int .i64 v4, AV.str v5]] [] (AV.int .i64 v6) [] := by
 unfold cases_pin at hF
 refine EN Try.func48 ?_
 intro c0 w0 Q h0 hQ
 refine WK [(0, AV.agg [Iz v0, Iz v1, AV.str v2]), (1, AV.agg [Iz v3, Iz v4, AV.str v5])] [] 0 (by simp) (by simp) ?_
 refine SQ [] [none, none, none] fun _ _ g r => ?_
 try simp
 and_intros <;> first | exact g _ (by kernel_rfl) | refine r _ _ _ ?_ | omega | (simp [maxLen] <;> omega)
 refine WK [(2, AV.ptr 0 0), (3, AV.ptr 1 0)] [(0, .cells [Iz v0, Iz v1, AV.str v2]), (1, .cells [Iz v3, Iz v4, AV.str v5])] 2 (by simp) (by simp) ?_
 refine SQ [] [none, none, none, none, none, none, none, none, none, none, none, none, none, none, none, none, none, none] fun _ _ g r => ?_
 try simp
 and_intros
 try any_goals first | omega | (simp [maxLen] <;> omega)
 obtain ⟨v7, h1, hF⟩ := bnd1_elim hF
 refine AC (w_cmp_Compare_int k _ _ _ h1) (.cons (.same (by simp)) (.cons (.same (by simp)) .nil)) ?_
 try simp
 and_intros
 try any_goals first | omega | (simp [maxLen] <;> omega)
 obtain ⟨v8, h2, hF⟩ := bnd1_elim hF
 refine AC (w_cmp_Compare_int k _ _ _ h2) (.cons (.same (by simp)) (.cons (.same (by simp)) .nil)) ?_
 try simp
 and_intros
 try any_goals first | omega | (simp [maxLen] <;> omega)
 obtain ⟨v9, h3, hF⟩ := bnd1_elim hF
 refine AC (w_strings_Compare k _ _ _ h3) (.cons (.same (by simp)) (.cons (.same (by simp)) .nil)) ?_
 try simp
 and_intros
 try any_goals first | omega | (simp [maxLen] <;> omega)
 obtain ⟨v10, h4, hF⟩ := bnd1_elim hF
 refine AC (w_cmp_Or_int k _ _ h4) (.cons (Coe.fl (by simp)) .nil) ?_
 try simp
 and_intros <;> first | exact g _ (by kernel_rfl) | refine r _ _ _ ?_ | omega | (simp [maxLen] <;> omega)
 refine WK [(4, Iz v10)] [] 2 (by simp) (by simp) ?_
 simp only [Option.some.injEq] at hF
 subst hF
 refine AW.ret (hQ _ _ _ ?_ (matchO_0 ?_)).1
 ·simp [Try.f48]
 ·simp
theorem w_cases_order_api_Pin_cases_pin (k : Nat) (v0 : (List api_Pin)) (v1 : (List api_Pin)) (v2 : Int) (hF : cases_order_api_Pin_cases_pin k v0 v1 = some v2) :
  FCall Try.prog 47 [AV.lst false false (List.map api_Pin.av v0), AV.lst false false (List.map api_Pin.av v1), AV.fn 48 []] [] (AV.int .i64 v2) [] := by
 unfold cases_order_api_Pin_cases_pin at hF
 refine EN Try.func47 ?_
 intro c0 w0 Q h0 hQ
 refine WK [(0, AV.lst false false (List.map api_Pin.av v0)), (1, AV.lst false false (List.map api_Pin.av v1)), (2, AV.fn 48 [])] [] 0 (by simp) (by simp) ?_
 refine SQ [] [none] fun _ _ g r => ?_
 try simp
 and_intros <;> first | exact g _ (by kernel_rfl) | refine r _ _ _ ?_ | omega | (simp [maxLen] <;> omega)
 refine WK [(0, AV.lst false false (List.map api_Pin.av v0)), (1, AV.lst false false (List.map api_Pin.av v1)), (2, AV.fn 48 [])] [] 0 (by simp) (by simp) ?_
 refine AW.seq fun K155 hK155 => ?_
 refine SQ [] [none, none, none, none, none, none] fun _ _ g r => ?_
 obtain ⟨v3, h1, hF⟩ := let1_elim hF
 have h1_ := h1
 try simp at h1_
 try simp [h1, h1_]
 and_intros <;> first | exact g _ (by kernel_rfl) | refine r _ _ _ ?_ | omega | (simp [h1, h1_, maxLen] <;> omega)
 refine WK [(0, AV.lst false false (List.map api_Pin.av v0)), (1, AV.lst false false (List.map api_Pin.av v1)), (2, AV.fn 48 []), (13, Iz v3), (14, Iz 0)] [] 0 (by simp [h1, h1_]) (by simp [h1, h1_]) ?_
 refine AW.block ?_
 refine AW.loopF (α := Int) (fun n v4 => cases_order_api_Pin_cases_pin.L1 k v0 v1 v3 n v4 = some v2) (fun v4 => [(0, AV.lst false false (List.map api_Pin.av v0)), (1, AV.lst false false (List.map api_Pin.av v1)), (2, AV.fn 48 []), (13, Iz v3), (14, Iz v4)]) (fun v4 => []) 0 k (0) hF (by simp [h1, h1_]) (by simp [h1, h1_]) (by simp) ?_
 rintro (_|n1) v4 hF K193 hK193
 ·try dsimp only at hF
  rw [cases_order_api_Pin_cases_pin.L1] at hF; cases hF
 try dsimp only at hF
 rw [cases_order_api_Pin_cases_pin.L1] at hF
 refine SQ [] [none] fun _ _ g r => ?_
 try simp [h1, h1_]
 and_intros <;> first | exact g _ (by kernel_rfl) | refine r _ _ _ ?_ | omega | (simp [h1, h1_, maxLen] <;> omega)
 refine WK [(0, AV.lst false false (List.map api_Pin.av v0)), (1, AV.lst false false (List.map api_Pin.av v1)), (2, AV.fn 48 []), (13, Iz v3), (14, Iz v4), (15, AV.bool (decide (v4 < v3)))] [] 0 (by simp [h1, h1_]) (by simp [h1, h1_]) ?_
 refine AW.seq fun K195 hK195 => ?_
 by_cases h2 : v4 < v3
 ·replace hF := ite_t h2 hF
  have h2_ := h2
  try simp at h2_
  have F1 := And.intro h1 (And.intro h1_ (And.intro h2 h2_))
  refine CT (by simp [F1] <;> omega) ?_
  refine AW.skip ?_
  refine hK195 _ _ _ ?_
  refine AW.seq fun K200 hK200 => ?_
  refine AW.block ?_
  refine SQ [] [none, none] fun _ _ g r => ?_
  try simp [F1]
  and_intros <;> first | exact g _ (by kernel_rfl) | refine r _ _ _ ?_ | omega | (simp [maxLen, F1] <;> omega)
  refine WK [(0, AV.lst false false (List.map api_Pin.av v0)), (1, AV.lst false false (List.map api_Pin.av v1)), (2, AV.fn 48 []), (7, Iz v4), (13, Iz v3), (14, Iz v4)] [] 0 (by simp [F1]) (by simp [F1]) ?_
  refine SQ [] [none, none, none, none, none, none, none, none, none, none, none] fun _ _ g r => ?_
  obtain ⟨v5, h3, h4, h5, hF⟩ := idx_elim hF
  have h5_ := get_of h5
  try simp at h5_
  have h4_ := h4
  try simp at h4_
  obtain ⟨v6, h6, h7, h8, hF⟩ := idx_elim hF
  have h8_ := get_of h8
  try simp at h8_
  have h7_ := h7
  try simp at h7_
  have F2 := And.intro F1 (And.intro h3 (And.intro h4 (And.intro h5 (And.intro h5_ (And.intro h4_ (And.intro h6 (And.intro h7 (And.intro h8 (And.intro h8_ h7_)))))))))
  try simp [F2]
  and_intros
  try any_goals first | omega | (simp [maxLen, F2] <;> omega)
  obtain ⟨v7, h9, hF⟩ := bnd1_elim hF
  refine AC (w_cases_pin k _ _ _ _ _ _ _ h9) (.cons (.same (by simp [F2])) (.cons (.same (by simp [F2])) .nil)) ?_
  try simp [F2]
  and_intros <;> first | exact g _ (by kernel_rfl) | refine r _ _ _ ?_ | omega | (simp [maxLen, F2] <;> omega)
  refine WK [(0, AV.lst false false (List.map api_Pin.av v0)), (1, AV.lst false false (List.map api_Pin.av v1)), (2, AV.fn 48 []), (8, Iz v7), (13, Iz v3), (14, Iz v4)] [] 0 (by simp [F2]) (by simp [F2]) ?_
  refine SQ [] [none, none] fun _ _ g r => ?_
  try simp [F2]
  and_intros <;> first | exact g _ (by kernel_rfl) | refine r _ _ _ ?_ | omega | (simp [maxLen, F2] <;> omega)
  refine WK [(0, AV.lst false false (List.map api_Pin.av v0)), (1, AV.lst false false (List.map api_Pin.av v1)), (2, AV.fn 48 []), (8, Iz v7), (13, Iz v3), (14, Iz v4), (28, AV.bool (v7 != 0))] [] 0 (by simp [F2]) (by simp [F2]) ?_
  by_cases h10 : v7 ≠ 0
  ·replace hF := ite_t h10 hF
   have h10_ := eqb_f h10
   have h10__ := neb_t h10
   have F3 := And.intro F2 (And.intro h10 (And.intro h10_ h10__))
   refine CT (by simp [F3] <;> omega) ?_
   refine SQ [] [none, none] fun _ _ g r => ?_
   try simp [F3]
   and_intros <;> first | exact g _ (by kernel_rfl) | refine r _ _ _ ?_ | omega | (simp [maxLen, F3] <;> omega)
   refine WK [(6, Iz v7)] [] 0 (by simp [F3]) (by simp [F3]) ?_
   simp only [Option.some.injEq] at hF
   subst hF
   refine AW.ret (hQ _ _ _ ?_ (matchO_0 ?_)).1
   ·simp [Try.f47, F3]
   ·simp [F3]
  ·replace hF := ite_f h10 hF
   have h10q : v7 = 0 := Classical.not_not.1 h10
   have h10_ := eqb_t h10q
   have h10__ := neb_f h10q
   have F4 := And.intro F2 (And.intro h10_ (And.intro h10__ h10q))
   refine CF (by simp [F4] <;> omega) ?_
   refine AW.skip ?_
   refine hK200 _ _ _ ?_
   refine RG [] [none, none] fun _ _ g r => ?_
   try simp [F4]
   and_intros <;> first | exact g _ (by kernel_rfl) | refine r _ _ _ ?_ | omega | (simp [maxLen, F4] <;> omega)
   refine hK193 _ _ _ ?_
   exact NX (k' := n1) (IntKind.wrap .i64 (v4 + 1)) hF (by simp [F4]) (by simp [F4])
 ·replace hF := ite_f h2 hF
  have h2_ := h2
  try simp at h2_
  have F5 := And.intro h1 (And.intro h1_ (And.intro h2 h2_))
  refine CF (by simp [F5] <;> omega) ?_
  refine AW.exit ?_
  try simp
  refine hK155 _ _ _ ?_
  refine SQ [] [none, none, none, none, none, none] fun _ _ g r => ?_
  try simp [F5]
  and_intros
  try any_goals first | omega | (simp [maxLen, F5] <;> omega)
  obtain ⟨v8, h11, hF⟩ := bnd1_elim hF
  refine AC (w_cmp_Compare_int k _ _ _ h11) (.cons (.same (by simp [F5])) (.cons (.same (by simp [F5])) .nil)) ?_
  try simp [F5]
  and_intros <;> first | exact g _ (by kernel_rfl) | refine r _ _ _ ?_ | omega | (simp [maxLen, F5] <;> omega)
  refine WK [(6, Iz v8)] [] 0 (by simp [F5]) (by simp [F5]) ?_
  simp only [Option.some.injEq] at hF
  subst hF
  refine AW.ret (hQ _ _ _ ?_ (matchO_0 ?_)).1
  ·simp [Try.f47, F5]
  ·simp [F5]
theorem w_cases_Order (k : Nat) (v0 : (List Int)) (v1 : (List api_Pin)) (v2 : (List Int)) (v3 : (List api_Pin)) (v4 : Int) (hF : cases_Order k v0 v1 v2 v3 = some v4) :
  FCall Try.prog 30 [AV.agg [AV.lst false false (List.map (AV.int .i64) v0), AV.lst false false (List.map api_Pin.av v1)], AV.agg [AV.lst false false (List.map (AV.int .i64) v2), AV.lst false false (List.map api_Pin.av v3)]] [] (AV.int .i64 v4) [] := by
 unfold cases_Order at hF
 refine EN Try.func30 ?_
 intro c0 w0 Q h0 hQ
 refine WK [(0, AV.agg [Lz v0, AV.lst false false (List.map api_Pin.av v1)]), (1, AV.agg [Lz v2, AV.lst false false (List.map api_Pin.av v3)])] [] 0 (by simp) (by simp) ?_
 refine SQ [] [none, none, none] fun _ _ g r => ?_
 try simp
 and_intros <;> first | exact g _ (by kernel_rfl) | refine r _ _ _ ?_ | omega | (simp [maxLen] <;> omega)
 refine WK [(2, AV.ptr 0 0), (3, AV.ptr 1 0)] [(0, .cells [Lz v0, AV.lst false false (List.map api_Pin.av v1)]), (1, .cells [Lz v2, AV.lst false false (List.map api_Pin.av v3)])] 2 (by simp) (by simp) ?_
 refine SQ [] [none, none, none, none, none, none, none, none, none, none, none, none, none] fun _ _ g r => ?_
 try simp
 and_intros
 try any_goals first | omega | (simp [maxLen] <;> omega)
 obtain ⟨v5, h1, hF⟩ := bnd1_elim hF
 refine AC (w_cases_order_int_Compare_int k _ _ _ h1) (.cons (.same (by simp)) (.cons (.same (by simp)) (.cons (.same (by simp)) .nil))) ?_
 try simp
 and_intros
 try any_goals first | omega | (simp [maxLen] <;> omega)
 obtain ⟨v6, h2, hF⟩ := bnd1_elim hF
 refine AC (w_cases_order_api_Pin_cases_pin k _ _ _ h2) (.cons (.same (by simp)) (.cons (.same (by simp)) (.cons (.same (by simp)) .nil))) ?_
 try simp
 and_intros
 try any_goals first | omega | (simp [maxLen] <;> omega)
 obtain ⟨v7, h3, hF⟩ := bnd1_elim hF
 refine AC (w_cmp_Or_int k _ _ h3) (.cons (Coe.fl (by simp)) .nil) ?_
 try simp
 and_intros <;> first | exact g _ (by kernel_rfl) | refine r _ _ _ ?_ | omega | (simp [maxLen] <;> omega)
 refine WK [(4, Iz v7)] [] 2 (by simp) (by simp) ?_
 simp only [Option.some.injEq] at hF
 subst hF
 refine AW.ret (hQ _ _ _ ?_ (matchO_0 ?_)).1
 ·simp [Try.f30]
 ·simp
theorem w_law23_CasesApart (k : Nat) (v0 : (List Int)) (v1 : Bool) (hF : law23_CasesApart k v0 = some v1) :
  FCall Try.prog 7 [AV.lst false false (List.map (AV.int .i64) v0)] [] (AV.bool v1) [] := by
 unfold law23_CasesApart at hF
 refine EN Try.func7 ?_
 intro c0 w0 Q h0 hQ
 refine WK [(0, Lz v0)] [] 0 (by simp) (by simp) ?_
 refine SQ [] [none] fun _ _ g r => ?_
 try simp
 and_intros <;> first | exact g _ (by kernel_rfl) | refine r _ _ _ ?_ | omega | (simp [maxLen] <;> omega)
 refine WK [(0, Lz v0)] [] 0 (by simp) (by simp) ?_
 refine AW.seq fun K21 hK21 => ?_
 refine SQ [] [none, none, none] fun _ _ g r => ?_
 try simp
 and_intros
 try any_goals first | omega | (simp [maxLen] <;> omega)
 obtain ⟨v2, h1, hF⟩ := bnd1_elim hF
 refine AC (w_mill_Light k _ _ h1) (.cons (.same (by simp)) .nil) ?_
 try simp
 and_intros <;> first | exact g _ (by kernel_rfl) | refine r _ _ _ ?_ | omega | (simp [maxLen] <;> omega)
 refine WK [(0, Lz v0), (14, AV.bool (!v2))] [] 0 (by simp) (by simp) ?_
 by_cases h2 : (!v2) = true
 ·replace hF := ite_t h2 hF
  have h2_ := h2
  try simp at h2_
  refine CT (by simp [h2, h2_] <;> omega) ?_
  refine SQ [] [none, none] fun _ _ g r => ?_
  try simp [h2, h2_]
  and_intros
  try any_goals first | omega | (simp [h2, h2_, maxLen] <;> omega)
  obtain ⟨v3, h3, hF⟩ := bnd1_elim hF
  refine AC (w_law23_awake k _ h3) .nil ?_
  try simp [h2, h2_]
  and_intros <;> first | exact g _ (by kernel_rfl) | refine r _ _ _ ?_ | omega | (simp [h2, h2_, maxLen] <;> omega)
  refine WK [(2, AV.bool v3)] [] 0 (by simp [h2, h2_]) (by simp [h2, h2_]) ?_
  simp only [Option.some.injEq] at hF
  subst hF
  refine AW.ret (hQ _ _ _ ?_ (matchO_0 ?_)).1
  ·simp [Try.f7, h2, h2_]
  ·simp [h2, h2_]
 ·replace hF := ite_f h2 hF
  have h2_ := h2
  try simp at h2_
  refine CF (by simp [h2, h2_] <;> omega) ?_
  refine AW.skip ?_
  refine hK21 _ _ _ ?_
  refine SQ [] [none, none, none] fun _ _ g r => ?_
  try simp [h2, h2_]
  and_intros
  try any_goals first | omega | (simp [h2, h2_, maxLen] <;> omega)
  obtain ⟨v4, v5, h4, hF⟩ := bnd2_elim hF
  refine AC (w_mill_Roll k _ _ _ h4) (.cons (.same (by simp [h2, h2_])) .nil) ?_
  try simp [h2, h2_]
  and_intros <;> first | exact g _ (by kernel_rfl) | refine r _ _ _ ?_ | omega | (simp [h2, h2_, maxLen] <;> omega)
  refine WK [(3, AV.ptr 0 0)] [(0, .cells [Lz v4, Iz v5])] 1 (by simp [h2, h2_]) (by simp [h2, h2_]) ?_
  refine SQ [] [none, none, none, none, none, none, none, none, none, none, none, none] fun _ _ g r => ?_
  try simp [h2, h2_]
  and_intros
  try any_goals first | omega | (simp [h2, h2_, maxLen] <;> omega)
  obtain ⟨v6, v7, h5, hF⟩ := bnd2_elim hF
  refine aCall_l (w_made_Dice_Next k _ _ _ _ _ h5) (by simp) [0] [] [0] rfl (.cons (.same (by simp [h2, h2_])) (.cons (.same (by simp [h2, h2_])) .nil)) (by simp [h2, h2_]) (by decide) (by simp) (by simp) (.inl rfl) (by simp) (by simp) ?_
  try simp [h2, h2_]
  and_intros
  try any_goals first | omega | (simp [h2, h2_, maxLen] <;> omega)
  obtain ⟨v8, v9, v10, v11, v12, h6, hF⟩ := bnd5_elim hF
  refine aCall_l (w_mill_Case k _ _ _ _ _ _ _ _ h6) (by simp) [0] [] [0] rfl (.cons (.same (by simp [h2, h2_])) (.cons (.same (by simp [h2, h2_])) .nil)) (by simp [h2, h2_]) (by decide) (by simp) (by simp) (.inl rfl) (by simp) (by simp) ?_
  try simp [h2, h2_]
  and_intros
  try any_goals first | omega | (simp [h2, h2_, maxLen] <;> omega)
  obtain ⟨v13, v14, h7, hF⟩ := bnd2_elim hF
  refine aCall_l (w_made_Dice_Next k _ _ _ _ _ h7) (by simp) [0] [] [0] rfl (.cons (.same (by simp [h2, h2_])) (.cons (.same (by simp [h2, h2_])) .nil)) (by simp [h2, h2_]) (by decide) (by simp) (by simp) (.inl rfl) (by simp) (by simp) ?_
  try simp [h2, h2_]
  and_intros
  try any_goals first | omega | (simp [h2, h2_, maxLen] <;> omega)
  obtain ⟨v15, v16, v17, v18, v19, h8, hF⟩ := bnd5_elim hF
  refine aCall_l (w_mill_Case k _ _ _ _ _ _ _ _ h8) (by simp) [0] [] [0] rfl (.cons (.same (by simp [h2, h2_])) (.cons (.same (by simp [h2, h2_])) .nil)) (by simp [h2, h2_]) (by decide) (by simp) (by simp) (.inl rfl) (by simp) (by simp) ?_
  try simp [h2, h2_]
  and_intros <;> first | exact g _ (by kernel_rfl) | refine r _ _ _ ?_ | omega | (simp [h2, h2_, maxLen] <;> omega)
  refine WK [(3, AV.ptr 0 0), (4, AV.ptr 1 0), (5, AV.ptr 2 0)] [(0, .cells [Lz v4, Iz v19]), (1, .cells [Iz v8, Iz v9, Iz v10, Iz v11]), (2, .cells [Iz v15, Iz v16, Iz v17, Iz v18])] 3 (by simp [h2, h2_]) (by simp [h2, h2_]) ?_
  refine AW.midF (α := (Int × Int × Int × Int × Int)) (fun (v20, v21, v22, v23, v24) => law23_CasesApart.J1 k v4 v8 v9 v10 v11 v20 v21 v22 v23 v24 = some v1) (fun (v20, v21, v22, v23, v24) => [(3, AV.ptr 0 0), (4, AV.ptr 1 0), (5, AV.ptr 2 0)]) (fun (v20, v21, v22, v23, v24) => [(0, .cells [Lz v4, Iz v20]), (1, .cells [Iz v8, Iz v9, Iz v10, Iz v11]), (2, .cells [Iz v21, Iz v22, Iz v23, Iz v24])]) 3 (fun K32 hK32 => ?_) ?_
  ·refine SQ [] [none, none] fun _ _ g r => ?_
   try simp [h2, h2_]
   and_intros
   try any_goals first | omega | (simp [h2, h2_, maxLen] <;> omega)
   obtain ⟨v50, v51, h25, hF⟩ := bnd2_elim hF
   refine aCall_l (w_made_Dice_One k _ _ _ _ _ h25) (by simp) [0] [] [0] rfl (.cons (.same (by simp [h2, h2_])) (.cons (.same (by simp [h2, h2_])) .nil)) (by simp [h2, h2_]) (by decide) (by simp) (by simp) (.inl rfl) (by simp) (by simp) ?_
   try simp [h2, h2_]
   and_intros <;> first | exact g _ (by kernel_rfl) | refine r _ _ _ ?_ | omega | (simp [h2, h2_, maxLen] <;> omega)
   refine WK [(3, AV.ptr 0 0), (4, AV.ptr 1 0), (5, AV.ptr 2 0), (27, AV.bool v50)] [(0, .cells [Lz v4, Iz v51]), (1, .cells [Iz v8, Iz v9, Iz v10, Iz v11]), (2, .cells [Iz v15, Iz v16, Iz v17, Iz v18])] 3 (by simp [h2, h2_]) (by simp [h2, h2_]) ?_
   by_cases h26 : v50 = true
   ·replace hF := ite_t h26 hF
    have h26_ := h26
    try simp at h26_
    have F1 := And.intro h2 (And.intro h2_ (And.intro h26 h26_))
    refine CT (by simp [F1] <;> omega) ?_
    refine RG [] [none, none] fun _ _ g r => ?_
    try simp [F1]
    and_intros <;> first | exact g _ (by kernel_rfl) | refine r _ _ _ ?_ | omega | (simp [maxLen, F1] <;> omega)
    refine hK32 _ _ _ ?_
    exact JN ((v51, v8, v9, v10, v11)) hF (by simp [F1]) (by simp [F1])
   ·replace hF := ite_f h26 hF
    have h26_ := h26
    try simp at h26_
    have F2 := And.intro h2 (And.intro h2_ (And.intro h26 h26_))
    refine CF (by simp [F2] <;> omega) ?_
    refine AW.skip ?_
    refine hK32 _ _ _ ?_
    exact JN ((v51, v15, v16, v17, v18)) hF (by simp [F2]) (by simp [F2])
  ·rintro ⟨v20, v21, v22, v23, v24⟩ hF
   try dsimp only at hF
   unfold law23_CasesApart.J1 at hF
   refine SQ [] [none, none, none, none, none, none, none, none, none, none] fun _ _ g r => ?_
   try simp [h2, h2_]
   and_intros
   try any_goals first | omega | (simp [h2, h2_, maxLen] <;> omega)
   obtain ⟨v25, v26, v27, h9, hF⟩ := bnd3_elim hF
   refine aCall_l (w_mill_Content k _ _ _ _ _ _ _ _ _ h9) (by simp) [0] [] [0] rfl (.cons (.same (by simp [h2, h2_])) (.cons (.same (by simp [h2, h2_])) .nil)) (by simp [h2, h2_]) (by decide) (by simp) (by simp) (.inl rfl) (by simp) (by simp) ?_
   try simp [h2, h2_]
   and_intros
   try any_goals first | omega | (simp [h2, h2_, maxLen] <;> omega)
   obtain ⟨v28, v29, v30, h10, hF⟩ := bnd3_elim hF
   refine aCall_l (w_mill_Content k _ _ _ _ _ _ _ _ _ h10) (by simp) [0] [] [0] rfl (.cons (.same (by simp [h2, h2_])) (.cons (.same (by simp [h2, h2_])) .nil)) (by simp [h2, h2_]) (by decide) (by simp) (by simp) (.inl rfl) (by simp) (by simp) ?_
   try simp [h2, h2_]
   and_intros <;> first | exact g _ (by kernel_rfl) | refine r _ _ _ ?_ | omega | (simp [h2, h2_, maxLen] <;> omega)
   refine WK [(4, AV.ptr 1 0), (5, AV.ptr 2 0), (6, AV.ptr 3 0), (7, AV.ptr 4 0)] [(1, .cells [Iz v8, Iz v9, Iz v10, Iz v11]), (2, .cells [Iz v21, Iz v22, Iz v23, Iz v24]), (3, .cells [Lz v25, AV.lst false false (List.map api_Pin.av v26)]), (4, .cells [Lz v28, AV.lst false false (List.map api_Pin.av v29)])] 5 (by simp [h2, h2_]) (by simp [h2, h2_]) ?_
   refine SQ [] [none, none, none, none, none, none, none, none, none] fun _ _ g r => ?_
   try simp [h2, h2_]
   and_intros
   try any_goals first | omega | (simp [h2, h2_, maxLen] <;> omega)
   obtain ⟨v31, v32, v33, v34, v35, v36, v37, h11, hF⟩ := bnd7_elim hF
   refine AC (w_cases_Draft k _ _ _ _ _ _ _ _ _ _ _ _ _ h11) (.cons (.same (by simp [h2, h2_])) (.cons (.same (by simp [h2, h2_])) .nil)) ?_
   try simp [h2, h2_]
   and_intros <;> first | exact g _ (by kernel_rfl) | refine r _ _ _ ?_ | omega | (simp [h2, h2_, maxLen] <;> omega)
   refine WK [(4, AV.ptr 1 0), (5, AV.ptr 2 0), (6, AV.ptr 3 0), (7, AV.ptr 4 0), (8, AV.ptr 5 0), (9, Iz v37)] [(1, .cells [Iz v8, Iz v9, Iz v10, Iz v11]), (2, .cells [Iz v21, Iz v22, Iz v23, Iz v24]), (3, .cells [Lz v25, AV.lst false false (List.map api_Pin.av v26)]), (4, .cells [Lz v28, AV.lst false false (List.map api_Pin.av v29)]), (5, .cells [Iz v31, Iz v32, Iz v33, Iz v34, Lz v35, AV.lst false false (List.map api_Pin.av v36)])] 6 (by simp [h2, h2_]) (by simp [h2, h2_]) ?_
   refine SQ [] [none, none, none, none, none, none, none, none, none] fun _ _ g r => ?_
   try simp [h2, h2_]
   and_intros
   try any_goals first | omega | (simp [h2, h2_, maxLen] <;> omega)
   obtain ⟨v38, v39, v40, v41, v42, v43, v44, h12, hF⟩ := bnd7_elim hF
   refine AC (w_cases_Draft k _ _ _ _ _ _ _ _ _ _ _ _ _ h12) (.cons (.same (by simp [h2, h2_])) (.cons (.same (by simp [h2, h2_])) .nil)) ?_
   try simp [h2, h2_]
   and_intros <;> first | exact g _ (by kernel_rfl) | refine r _ _ _ ?_ | omega | (simp [h2, h2_, maxLen] <;> omega)
   refine WK [(4, AV.ptr 1 0), (5, AV.ptr 2 0), (6, AV.ptr 3 0), (7, AV.ptr 4 0), (8, AV.ptr 5 0), (9, Iz v37), (10, AV.ptr 6 0), (11, Iz v44)] [(1, .cells [Iz v8, Iz v9, Iz v10, Iz v11]), (2, .cells [Iz v21, Iz v22, Iz v23, Iz v24]), (3, .cells [Lz v25, AV.lst false false (List.map api_Pin.av v26)]), (4, .cells [Lz v28, AV.lst false false (List.map api_Pin.av v29)]), (5, .cells [Iz v31, Iz v32, Iz v33, Iz v34, Lz v35, AV.lst false false (List.map api_Pin.av v36)]), (6, .cells [Iz v38, Iz v39, Iz v40, Iz v41, Lz v42, AV.lst false false (List.map api_Pin.av v43)])] 7 (by simp [h2, h2_]) (by simp [h2, h2_]) ?_
   refine SQ [] [none, none, none, some (49, true), some (49, true), none, none, some (53, true), some (53, true), some (53, true), some (53, true), some (53, true), some (53, true), some (53, true), some (60, true), some (60, true), some (60, true), some (60, true), some (53, true), some (53, true), none, none, some (68, true), some (68, true), some (68, true), none, none, some (73, true), none, none] fun _ _ g r => ?_
   by_cases h13 : v37 = 0
   ·replace hF := ite_t h13 hF
    have h13q : v37 = 0 := h13
    have h13_ := eqb_t h13q
    have h13__ := neb_f h13q
    by_cases h14 : v44 = 0
    ·replace hF := ite_t h14 hF
     have h14q : v44 = 0 := h14
     have h14_ := eqb_t h14q
     have h14__ := neb_f h14q
     have F3 := And.intro h2 (And.intro h2_ (And.intro h13_ (And.intro h13__ (And.intro h13q (And.intro h14_ (And.intro h14__ h14q))))))
     try simp [F3]
     and_intros
     try any_goals first | omega | (simp [maxLen, F3] <;> omega)
     obtain ⟨v45, h15, hF⟩ := bnd1_elim hF
     refine AC (w_ref23_SameDraft k _ _ _ _ _ _ _ _ _ _ _ _ _ h15) (.cons (.same (by simp [F3])) (.cons (.same (by simp [F3])) .nil)) ?_
     obtain ⟨v46, h16, hF⟩ := let1_elim hF
     have h16_ := h16
     try simp at h16_
     by_cases h17 : v46 = true
     ·replace hF := ite_t h17 hF
      have h17_ := h17
      try simp at h17_
      have F4 := And.intro F3 (And.intro h16 (And.intro h16_ (And.intro h17 h17_)))
      try simp [F4]
      and_intros
      try any_goals first | omega | (simp [maxLen, F4] <;> omega)
      obtain ⟨v47, h18, hF⟩ := bnd1_elim hF
      refine AC (w_cases_Order k _ _ _ _ _ h18) (.cons (.same (by simp [F4])) (.cons (.same (by simp [F4])) .nil)) ?_
      by_cases h19 : (v45 == (v47 == 0)) = true
      ·replace hF := ite_t h19 hF
       have h19_ := h19
       try simp at h19_
       by_cases h20 : v31 = 10
       ·replace hF := ite_t h20 hF
        have h20q : v31 = 10 := h20
        have h20_ := eqb_t h20q
        have h20__ := neb_f h20q
        have F5 := And.intro F4 (And.intro h19 (And.intro h19_ (And.intro h20_ (And.intro h20__ h20q))))
        try simp [F5]
        and_intros
        try any_goals first | omega | (simp [maxLen, F5] <;> omega)
        obtain ⟨v48, h21, hF⟩ := bnd1_elim hF
        refine AC (w_law23_awake k _ h21) .nil ?_
        try simp [F5]
        and_intros <;> first | exact g _ (by kernel_rfl) | refine r _ _ _ ?_ | omega | (simp [maxLen, F5] <;> omega)
        refine WK [(2, AV.bool v48)] [] 7 (by simp [F5]) (by simp [F5]) ?_
        simp only [Option.some.injEq] at hF
        subst hF
        refine AW.ret (hQ _ _ _ ?_ (matchO_0 ?_)).1
        ·simp [Try.f7, F5]
        ·simp [F5]
       ·replace hF := ite_f h20 hF
        have h20_ := eqb_f h20
        have h20__ := neb_t h20
        have F6 := And.intro F4 (And.intro h19 (And.intro h19_ (And.intro h20 (And.intro h20_ h20__))))
        try simp [F6]
        and_intros <;> first | exact g _ (by kernel_rfl) | refine r _ _ _ ?_ | omega | (simp [maxLen, F6] <;> omega)
        refine WK [(2, AV.bool false)] [] 7 (by simp [F6]) (by simp [F6]) ?_
        simp only [Option.some.injEq] at hF
        subst hF
        refine AW.ret (hQ _ _ _ ?_ (matchO_0 ?_)).1
        ·simp [Try.f7, F6]
        ·simp [F6]
      ·replace hF := ite_f h19 hF
       have h19_ := h19
       try simp at h19_
       have F7 := And.intro F4 (And.intro h19 h19_)
       try simp [F7]
       and_intros <;> first | exact g _ (by kernel_rfl) | refine r _ _ _ ?_ | omega | (simp [maxLen, F7] <;> omega)
       refine WK [(2, AV.bool false)] [] 7 (by simp [F7]) (by simp [F7]) ?_
       simp only [Option.some.injEq] at hF
       subst hF
       refine AW.ret (hQ _ _ _ ?_ (matchO_0 ?_)).1
       ·simp [Try.f7, F7]
       ·simp [F7]
     ·replace hF := ite_f h17 hF
      have h17_ := h17
      try simp at h17_
      by_cases h22 : (v45 == false) = true
      ·replace hF := ite_t h22 hF
       have h22_ := h22
       try simp at h22_
       by_cases h23 : v31 = 10
       ·replace hF := ite_t h23 hF
        have h23q : v31 = 10 := h23
        have h23_ := eqb_t h23q
        have h23__ := neb_f h23q
        have F8 := And.intro F3 (And.intro h16 (And.intro h16_ (And.intro h17 (And.intro h17_ (And.intro h22 (And.intro h22_ (And.intro h23_ (And.intro h23__ h23q))))))))
        try simp [F8]
        and_intros
        try any_goals first | omega | (simp [maxLen, F8] <;> omega)
        obtain ⟨v49, h24, hF⟩ := bnd1_elim hF
        refine AC (w_law23_awake k _ h24) .nil ?_
        try simp [F8]
        and_intros <;> first | exact g _ (by kernel_rfl) | refine r _ _ _ ?_ | omega | (simp [maxLen, F8] <;> omega)
        refine WK [(2, AV.bool v49)] [] 7 (by simp [F8]) (by simp [F8]) ?_
        simp only [Option.some.injEq] at hF
        subst hF
        refine AW.ret (hQ _ _ _ ?_ (matchO_0 ?_)).1
        ·simp [Try.f7, F8]
        ·simp [F8]
       ·replace hF := ite_f h23 hF
        have h23_ := eqb_f h23
        have h23__ := neb_t h23
        have F9 := And.intro F3 (And.intro h16 (And.intro h16_ (And.intro h17 (And.intro h17_ (And.intro h22 (And.intro h22_ (And.intro h23 (And.intro h23_ h23__))))))))
        try simp [F9]
        and_intros <;> first | exact g _ (by kernel_rfl) | refine r _ _ _ ?_ | omega | (simp [maxLen, F9] <;> omega)
        refine WK [(2, AV.bool false)] [] 7 (by simp [F9]) (by simp [F9]) ?_
        simp only [Option.some.injEq] at hF
        subst hF
        refine AW.ret (hQ _ _ _ ?_ (matchO_0 ?_)).1
        ·simp [Try.f7, F9]
        ·simp [F9]
      ·replace hF := ite_f h22 hF
       have h22_ := h22
       try simp at h22_
       have F10 := And.intro F3 (And.intro h16 (And.intro h16_ (And.intro h17 (And.intro h17_ (And.intro h22 h22_)))))
       try simp [F10]
       and_intros <;> first | exact g _ (by kernel_rfl) | refine r _ _ _ ?_ | omega | (simp [maxLen, F10] <;> omega)
       refine WK [(2, AV.bool false)] [] 7 (by simp [F10]) (by simp [F10]) ?_
       simp only [Option.some.injEq] at hF
       subst hF
       refine AW.ret (hQ _ _ _ ?_ (matchO_0 ?_)).1
       ·simp [Try.f7, F10]
       ·simp [F10]
    ·replace hF := ite_f h14 hF
     have h14_ := eqb_f h14
     have h14__ := neb_t h14
     have F11 := And.intro h2 (And.intro h2_ (And.intro h13_ (And.intro h13__ (And.intro h13q (And.intro h14 (And.intro h14_ h14__))))))
     try simp [F11]
     and_intros <;> first | exact g _ (by kernel_rfl) | refine r _ _ _ ?_ | omega | (simp [maxLen, F11] <;> omega)
     refine WK [(2, AV.bool false)] [] 7 (by simp [F11]) (by simp [F11]) ?_
     simp only [Option.some.injEq] at hF
     subst hF
     refine AW.ret (hQ _ _ _ ?_ (matchO_0 ?_)).1
     ·simp [Try.f7, F11]
     ·simp [F11]
   ·replace hF := ite_f h13 hF
    have h13_ := eqb_f h13
    have h13__ := neb_t h13
    have F12 := And.intro h2 (And.intro h2_ (And.intro h13 (And.intro h13_ h13__)))
    try simp [F12]
    and_intros <;> first | exact g _ (by kernel_rfl) | refine r _ _ _ ?_ | omega | (simp [maxLen, F12] <;> omega)
    refine WK [(2, AV.bool false)] [] 7 (by simp [F12]) (by simp [F12]) ?_
    simp only [Option.some.injEq] at hF
    subst hF
    refine AW.ret (hQ _ _ _ ?_ (matchO_0 ?_)).1
    ·simp [Try.f7, F12]
    ·simp [F12]
end Go.TF
