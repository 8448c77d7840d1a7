/- Walks: the Go text computes the Lean functions (printed by a program of our own). -/
import Derived.Test.YteclncnknklkfaaOaPu
import Derived.Test.YteclncnknklkfaaOaAbsT
import Derived.Test.YteclncnknklkfaaOaWa0
import Derived.Test.YteclncnknklkfaaOaWa1
import Derived.Test.YteclncnknklkfaaOaWa3
set_option linter.unusedVariables false
set_option linter.unusedSimpArgs false
set_option maxRecDepth 100000
set_option maxHeartbeats 4000000
namespace Go.TF
open Go Go.Abs Go.Proofs Go.Proofs.YteclncnknklkfaaOaT
theorem w_cases_order_int_Compare_int (k : Nat) (v0 : (List Int)) (v1 : (List Int)) (v2 : Int) (hF : cases_order_int_Compare_int k v0 v1 = some v2) :
  FCall Try.prog 45 [AV.lst false false (List.map (AV.int .i64) v0), AV.lst false false (List.map (AV.int .i64) v1), AV.fn 46 []] [] (AV.int .i64 v2) [] := by
 unfold cases_order_int_Compare_int at hF
 refine EN Try.func45 ?_
 intro c0 w0 Q h0 hQ
 refine WK [(0, Lz v0), (1, Lz v1), (2, AV.fn 46 [])] [] 0 (by simp) (by simp) ?_
 refine SQ [] [none] fun _ _ g r => ?_
 try simp
 and_intros <;> first | exact g _ (by kernel_rfl) | refine r _ _ _ ?_ | omega | (simp [maxLen] <;> omega)
 refine WK [(0, Lz v0), (1, Lz v1), (2, AV.fn 46 [])] [] 0 (by simp) (by simp) ?_
 refine AW.seq fun K155 hK155 => ?_
 refine SQ [] [none, none, none, none, none, none] fun _ _ g r => ?_
 obtain ⟨v3, h1, hF⟩ := let1_elim hF
 have h1_ := h1
 try simp at h1_
 try simp [h1, h1_]
 and_intros <;> first | exact g _ (by kernel_rfl) | refine r _ _ _ ?_ | omega | (simp [h1, h1_, maxLen] <;> omega)
 refine WK [(0, Lz v0), (1, Lz v1), (2, AV.fn 46 []), (13, Iz v3), (14, Iz 0)] [] 0 (by simp [h1, h1_]) (by simp [h1, h1_]) ?_
 refine AW.block ?_
 refine AW.loopF (α := Int) (fun n v4 => cases_order_int_Compare_int.L1 k v0 v1 v3 n v4 = some v2) (fun v4 => [(0, Lz v0), (1, Lz v1), (2, AV.fn 46 []), (13, Iz v3), (14, Iz v4)]) (fun v4 => []) 0 k (0) hF (by simp [h1, h1_]) (by simp [h1, h1_]) (by simp) ?_
 rintro (_|n1) v4 hF K193 hK193
 ·try dsimp only at hF
  rw [cases_order_int_Compare_int.L1] at hF; cases hF
 try dsimp only at hF
 rw [cases_order_int_Compare_int.L1] at hF
 refine SQ [] [none] fun _ _ g r => ?_
 try simp [h1, h1_]
 and_intros <;> first | exact g _ (by kernel_rfl) | refine r _ _ _ ?_ | omega | (simp [h1, h1_, maxLen] <;> omega)
 refine WK [(0, Lz v0), (1, Lz v1), (2, AV.fn 46 []), (13, Iz v3), (14, Iz v4), (15, AV.bool (decide (v4 < v3)))] [] 0 (by simp [h1, h1_]) (by simp [h1, h1_]) ?_
 refine AW.seq fun K195 hK195 => ?_
 by_cases h2 : v4 < v3
 ·replace hF := ite_t h2 hF
  have h2_ := h2
  try simp at h2_
  have F1 := And.intro h1 (And.intro h1_ (And.intro h2 h2_))
  refine CT (by simp [F1] <;> omega) ?_
  refine AW.skip ?_
  refine hK195 _ _ _ ?_
  refine AW.seq fun K200 hK200 => ?_
  refine AW.block ?_
  refine SQ [] [none, none] fun _ _ g r => ?_
  try simp [F1]
  and_intros <;> first | exact g _ (by kernel_rfl) | refine r _ _ _ ?_ | omega | (simp [maxLen, F1] <;> omega)
  refine WK [(0, Lz v0), (1, Lz v1), (2, AV.fn 46 []), (7, Iz v4), (13, Iz v3), (14, Iz v4)] [] 0 (by simp [F1]) (by simp [F1]) ?_
  refine SQ [] [none, none, none, none, none, none, none, none, none, none, none] fun _ _ g r => ?_
  obtain ⟨v5, h3, h4, h5, hF⟩ := idx_elim hF
  have h5_ := get_of h5
  try simp at h5_
  have h4_ := h4
  try simp at h4_
  obtain ⟨v6, h6, h7, h8, hF⟩ := idx_elim hF
  have h8_ := get_of h8
  try simp at h8_
  have h7_ := h7
  try simp at h7_
  have F2 := And.intro F1 (And.intro h3 (And.intro h4 (And.intro h5 (And.intro h5_ (And.intro h4_ (And.intro h6 (And.intro h7 (And.intro h8 (And.intro h8_ h7_)))))))))
  try simp [F2]
  and_intros
  try any_goals first | omega | (simp [maxLen, F2] <;> omega)
  obtain ⟨v7, h9, hF⟩ := bnd1_elim hF
  refine AC (w_cmp_Compare_int k _ _ _ h9) (.cons (.same (by simp [F2])) (.cons (.same (by simp [F2])) .nil)) ?_
  try simp [F2]
  and_intros <;> first | exact g _ (by kernel_rfl) | refine r _ _ _ ?_ | omega | (simp [maxLen, F2] <;> omega)
  refine WK [(0, Lz v0), (1, Lz v1), (2, AV.fn 46 []), (8, Iz v7), (13, Iz v3), (14, Iz v4)] [] 0 (by simp [F2]) (by simp [F2]) ?_
  refine SQ [] [none, none] fun _ _ g r => ?_
  try simp [F2]
  and_intros <;> first | exact g _ (by kernel_rfl) | refine r _ _ _ ?_ | omega | (simp [maxLen, F2] <;> omega)
  refine WK [(0, Lz v0), (1, Lz v1), (2, AV.fn 46 []), (8, Iz v7), (13, Iz v3), (14, Iz v4), (28, AV.bool (v7 != 0))] [] 0 (by simp [F2]) (by simp [F2]) ?_
  by_cases h10 : v7 ≠ 0
  ·replace hF := ite_t h10 hF
   have h10_ := eqb_f h10
   have h10__ := neb_t h10
   have F3 := And.intro F2 (And.intro h10 (And.intro h10_ h10__))
   refine CT (by simp [F3] <;> omega) ?_
   refine SQ [] [none, none] fun _ _ g r => ?_
   try simp [F3]
   and_intros <;> first | exact g _ (by kernel_rfl) | refine r _ _ _ ?_ | omega | (simp [maxLen, F3] <;> omega)
   refine WK [(6, Iz v7)] [] 0 (by simp [F3]) (by simp [F3]) ?_
   simp only [Option.some.injEq] at hF
   subst hF
   refine AW.ret (hQ _ _ _ ?_ (matchO_0 ?_)).1
   ·simp [Try.f45, F3]
   ·simp [F3]
  ·replace hF := ite_f h10 hF
   have h10q : v7 = 0 := Classical.not_not.1 h10
   have h10_ := eqb_t h10q
   have h10__ := neb_f h10q
   have F4 := And.intro F2 (And.intro h10_ (And.intro h10__ h10q))
   refine CF (by simp [F4] <;> omega) ?_
   refine AW.skip ?_
   refine hK200 _ _ _ ?_
   refine RG [] [none, none] fun _ _ g r => ?_
   try simp [F4]
   and_intros <;> first | exact g _ (by kernel_rfl) | refine r _ _ _ ?_ | omega | (simp [maxLen, F4] <;> omega)
   refine hK193 _ _ _ ?_
   exact NX (k' := n1) (IntKind.wrap .i64 (v4 + 1)) hF (by simp [F4]) (by simp [F4])
 ·replace hF := ite_f h2 hF
  have h2_ := h2
  try simp at h2_
  have F5 := And.intro h1 (And.intro h1_ (And.intro h2 h2_))
  refine CF (by simp [F5] <;> omega) ?_
  refine AW.exit ?_
  try simp
  refine hK155 _ _ _ ?_
  refine SQ [] [none, none, none, none, none, none] fun _ _ g r => ?_
  try simp [F5]
  and_intros
  try any_goals first | omega | (simp [maxLen, F5] <;> omega)
  obtain ⟨v8, h11, hF⟩ := bnd1_elim hF
  refine AC (w_cmp_Compare_int k _ _ _ h11) (.cons (.same (by simp [F5])) (.cons (.same (by simp [F5])) .nil)) ?_
  try simp [F5]
  and_intros <;> first | exact g _ (by kernel_rfl) | refine r _ _ _ ?_ | omega | (simp [maxLen, F5] <;> omega)
  refine WK [(6, Iz v8)] [] 0 (by simp [F5]) (by simp [F5]) ?_
  simp only [Option.some.injEq] at hF
  subst hF
  refine AW.ret (hQ _ _ _ ?_ (matchO_0 ?_)).1
  ·simp [Try.f45, F5]
  ·simp [F5]
theorem w_internal_bytealg_CompareString (k : Nat) (v0 : ByteArray) (v1 : ByteArray) (v2 : Int) (hF : internal_bytealg_CompareString k v0 v1 = some v2) :
  FCall Try.prog 67 [AV.str v0, AV.str v1] [] (AV.int .i64 v2) [] := by
 unfold internal_bytealg_CompareString at hF
 refine EN Try.func67 ?_
 intro c0 w0 Q h0 hQ
 refine WK [(0, AV.str v0), (1, AV.str v1)] [] 0 (by simp) (by simp) ?_
 refine SQ [] [none] fun _ _ g r => ?_
 try simp
 and_intros <;> first | exact g _ (by kernel_rfl) | refine r _ _ _ ?_ | omega | (simp [maxLen] <;> omega)
 refine WK [(0, AV.str v0), (1, AV.str v1)] [] 0 (by simp) (by simp) ?_
 refine SQ [] [none, none, none, none] fun _ _ g r => ?_
 try simp
 and_intros
 try any_goals first | omega | (simp [maxLen] <;> omega)
 refine aCall_cmp xcmp ?_
 try simp
 and_intros <;> first | exact g _ (by kernel_rfl) | refine r _ _ _ ?_ | omega | (simp [maxLen] <;> omega)
 refine WK [(4, Iz (Go.Extern.BytealgCompare.cmp v0 v1))] [] 0 (by simp) (by simp) ?_
 simp only [Option.some.injEq] at hF
 subst hF
 refine AW.ret (hQ _ _ _ ?_ (matchO_0 ?_)).1
 ·simp [Try.f67]
 ·simp
theorem w_strings_Compare (k : Nat) (v0 : ByteArray) (v1 : ByteArray) (v2 : Int) (hF : strings_Compare k v0 v1 = some v2) :
  FCall Try.prog 62 [AV.str v0, AV.str v1] [] (AV.int .i64 v2) [] := by
 unfold strings_Compare at hF
 refine EN Try.func62 ?_
 intro c0 w0 Q h0 hQ
 refine WK [(0, AV.str v0), (1, AV.str v1)] [] 0 (by simp) (by simp) ?_
 refine SQ [] [none] fun _ _ g r => ?_
 try simp
 and_intros <;> first | exact g _ (by kernel_rfl) | refine r _ _ _ ?_ | omega | (simp [maxLen] <;> omega)
 refine WK [(0, AV.str v0), (1, AV.str v1)] [] 0 (by simp) (by simp) ?_
 refine SQ [] [none, none, none, none] fun _ _ g r => ?_
 try simp
 and_intros
 try any_goals first | omega | (simp [maxLen] <;> omega)
 obtain ⟨v3, h1, hF⟩ := bnd1_elim hF
 refine AC (w_internal_bytealg_CompareString k _ _ _ h1) (.cons (.same (by simp)) (.cons (.same (by simp)) .nil)) ?_
 try simp
 and_intros <;> first | exact g _ (by kernel_rfl) | refine r _ _ _ ?_ | omega | (simp [maxLen] <;> omega)
 refine WK [(4, Iz v3)] [] 0 (by simp) (by simp) ?_
 simp only [Option.some.injEq] at hF
 subst hF
 refine AW.ret (hQ _ _ _ ?_ (matchO_0 ?_)).1
 ·simp [Try.f62]
 ·simp
theorem w_cmp_Or_int (k : Nat) (v0 : (List Int)) (v1 : Int) (hF : cmp_Or_int k v0 = some v1) :
  FCall Try.prog 44 [AV.lst false false (List.map (AV.int .i64) v0)] [] (AV.int .i64 v1) [] := by
 unfold cmp_Or_int at hF
 refine EN Try.func44 ?_
 intro c0 w0 Q h0 hQ
 refine WK [(0, Lz v0)] [] 0 (by simp) (by simp) ?_
 refine SQ [] [none] fun _ _ g r => ?_
 try simp
 and_intros <;> first | exact g _ (by kernel_rfl) | refine r _ _ _ ?_ | omega | (simp [maxLen] <;> omega)
 refine WK [(0, Lz v0)] [] 0 (by simp) (by simp) ?_
 refine SQ [] [none] fun _ _ g r => ?_
 try simp
 and_intros <;> first | exact g _ (by kernel_rfl) | refine r _ _ _ ?_ | omega | (simp [maxLen] <;> omega)
 refine WK [(0, Lz v0), (3, Iz 0)] [] 0 (by simp) (by simp) ?_
 refine AW.seq fun K133 hK133 => ?_
 refine SQ [] [none, none, none] fun _ _ g r => ?_
 try simp
 and_intros <;> first | exact g _ (by kernel_rfl) | refine r _ _ _ ?_ | omega | (simp [maxLen] <;> omega)
 refine WK [(3, Iz 0), (6, Lz v0), (7, Iz (v0.length : Int)), (8, Iz 0)] [] 0 (by simp) (by simp) ?_
 refine AW.block ?_
 refine AW.loopF (α := Int) (fun n v2 => cmp_Or_int.L1 k v0 n v2 = some v1) (fun v2 => [(3, Iz 0), (6, Lz v0), (7, Iz (v0.length : Int)), (8, Iz v2)]) (fun v2 => []) 0 k (0) hF (by simp) (by simp) (by simp) ?_
 rintro (_|n1) v2 hF K165 hK165
 ·try dsimp only at hF
  rw [cmp_Or_int.L1] at hF; cases hF
 try dsimp only at hF
 rw [cmp_Or_int.L1] at hF
 refine SQ [] [none] fun _ _ g r => ?_
 try simp
 and_intros <;> first | exact g _ (by kernel_rfl) | refine r _ _ _ ?_ | omega | (simp [maxLen] <;> omega)
 refine WK [(3, Iz 0), (6, Lz v0), (7, Iz (v0.length : Int)), (8, Iz v2), (9, AV.bool (decide (v2 < (v0.length : Int))))] [] 0 (by simp) (by simp) ?_
 refine AW.seq fun K167 hK167 => ?_
 by_cases h1 : v2 < (v0.length : Int)
 ·replace hF := ite_t h1 hF
  have h1_ := h1
  try simp at h1_
  refine CT (by simp [h1, h1_] <;> omega) ?_
  refine AW.skip ?_
  refine hK167 _ _ _ ?_
  refine AW.seq fun K171 hK171 => ?_
  refine AW.block ?_
  refine SQ [] [none, none, none] fun _ _ g r => ?_
  obtain ⟨v3, h2, h3, h4, hF⟩ := idx_elim hF
  have h4_ := get_of h4
  try simp at h4_
  have h3_ := h3
  try simp at h3_
  have F1 := And.intro h1 (And.intro h1_ (And.intro h2 (And.intro h3 (And.intro h4 (And.intro h4_ h3_)))))
  try simp [F1]
  and_intros <;> first | exact g _ (by kernel_rfl) | refine r _ _ _ ?_ | omega | (simp [maxLen, F1] <;> omega)
  refine WK [(3, Iz 0), (5, Iz v3), (6, Lz v0), (7, Iz (v0.length : Int)), (8, Iz v2)] [] 0 (by simp [F1]) (by simp [F1]) ?_
  refine SQ [] [none, none, none] fun _ _ g r => ?_
  try simp [F1]
  and_intros <;> first | exact g _ (by kernel_rfl) | refine r _ _ _ ?_ | omega | (simp [maxLen, F1] <;> omega)
  refine WK [(3, Iz 0), (5, Iz v3), (6, Lz v0), (7, Iz (v0.length : Int)), (8, Iz v2), (14, AV.bool (v3 != 0))] [] 0 (by simp [F1]) (by simp [F1]) ?_
  by_cases h5 : v3 ≠ 0
  ·replace hF := ite_t h5 hF
   have h5_ := eqb_f h5
   have h5__ := neb_t h5
   have F2 := And.intro F1 (And.intro h5 (And.intro h5_ h5__))
   refine CT (by simp [F2] <;> omega) ?_
   refine SQ [] [none, none] fun _ _ g r => ?_
   try simp [F2]
   and_intros <;> first | exact g _ (by kernel_rfl) | refine r _ _ _ ?_ | omega | (simp [maxLen, F2] <;> omega)
   refine WK [(2, Iz v3)] [] 0 (by simp [F2]) (by simp [F2]) ?_
   simp only [Option.some.injEq] at hF
   subst hF
   refine AW.ret (hQ _ _ _ ?_ (matchO_0 ?_)).1
   ·simp [Try.f44, F2]
   ·simp [F2]
  ·replace hF := ite_f h5 hF
   have h5q : v3 = 0 := Classical.not_not.1 h5
   have h5_ := eqb_t h5q
   have h5__ := neb_f h5q
   have F3 := And.intro F1 (And.intro h5_ (And.intro h5__ h5q))
   refine CF (by simp [F3] <;> omega) ?_
   refine AW.skip ?_
   refine hK171 _ _ _ ?_
   refine RG [] [none, none] fun _ _ g r => ?_
   try simp [F3]
   and_intros <;> first | exact g _ (by kernel_rfl) | refine r _ _ _ ?_ | omega | (simp [maxLen, F3] <;> omega)
   refine hK165 _ _ _ ?_
   exact NX (k' := n1) (IntKind.wrap .i64 (v2 + 1)) hF (by simp [F3]) (by simp [F3])
 ·replace hF := ite_f h1 hF
  have h1_ := h1
  try simp at h1_
  refine CF (by simp [h1, h1_] <;> omega) ?_
  refine AW.exit ?_
  try simp
  refine hK133 _ _ _ ?_
  refine SQ [] [none, none] fun _ _ g r => ?_
  try simp [h1, h1_]
  and_intros <;> first | exact g _ (by kernel_rfl) | refine r _ _ _ ?_ | omega | (simp [h1, h1_, maxLen] <;> omega)
  refine WK [(2, Iz 0)] [] 0 (by simp [h1, h1_]) (by simp [h1, h1_]) ?_
  simp only [Option.some.injEq] at hF
  subst hF
  refine AW.ret (hQ _ _ _ ?_ (matchO_0 ?_)).1
  ·simp [Try.f44, h1, h1_]
  ·simp [h1, h1_]
theorem w_cases_pin (k : Nat) (v0 : Int) (v1 : Int) (v2 : ByteArray) (v3 : Int) (v4 : Int) (v5 : ByteArray) (v6 : Int) (hF : cases_pin k v0 v1 v2 v3 v4 v5 = some v6) :
  FCall Try.prog 48 [AV.agg [AV.int .i64 v0, AV.int .i64 v1, AV.str v2], AV.agg [AV.int .i64 v3, AV.int .i64 v4, AV.str v5]] [] (AV.int .i64 v6) [] := by
 unfold cases_pin at hF
 refine EN Try.func48 ?_
 intro c0 w0 Q h0 hQ
 refine WK [(0, AV.agg [Iz v0, Iz v1, AV.str v2]), (1, AV.agg [Iz v3, Iz v4, AV.str v5])] [] 0 (by simp) (by simp) ?_
 refine SQ [] [none, none, none] fun _ _ g r => ?_
 try simp
 and_intros <;> first | exact g _ (by kernel_rfl) | refine r _ _ _ ?_ | omega | (simp [maxLen] <;> omega)
 refine WK [(2, AV.ptr 0 0), (3, AV.ptr 1 0)] [(0, .cells [Iz v0, Iz v1, AV.str v2]), (1, .cells [Iz v3, Iz v4, AV.str v5])] 2 (by simp) (by simp) ?_
 refine SQ [] [none, none, none, none, none, none, none, none, none, none, none, none, none, none, none, none, none, none] fun _ _ g r => ?_
 try simp
 and_intros
 try any_goals first | omega | (simp [maxLen] <;> omega)
 obtain ⟨v7, h1, hF⟩ := bnd1_elim hF
 refine AC (w_cmp_Compare_int k _ _ _ h1) (.cons (.same (by simp)) (.cons (.same (by simp)) .nil)) ?_
 try simp
 and_intros
 try any_goals first | omega | (simp [maxLen] <;> omega)
 obtain ⟨v8, h2, hF⟩ := bnd1_elim hF
 refine AC (w_cmp_Compare_int k _ _ _ h2) (.cons (.same (by simp)) (.cons (.same (by simp)) .nil)) ?_
 try simp
 and_intros
 try any_goals first | omega | (simp [maxLen] <;> omega)
 obtain ⟨v9, h3, hF⟩ := bnd1_elim hF
 refine AC (w_strings_Compare k _ _ _ h3) (.cons (.same (by simp)) (.cons (.same (by simp)) .nil)) ?_
 try simp
 and_intros
 try any_goals first | omega | (simp [maxLen] <;> omega)
 obtain ⟨v10, h4, hF⟩ := bnd1_elim hF
 refine AC (w_cmp_Or_int k _ _ h4) (.cons (Coe.fl (by simp)) .nil) ?_
 try simp
 and_intros <;> first | exact g _ (by kernel_rfl) | refine r _ _ _ ?_ | omega | (simp [maxLen] <;> omega)
 refine WK [(4, Iz v10)] [] 2 (by simp) (by simp) ?_
 simp only [Option.some.injEq] at hF
 subst hF
 refine AW.ret (hQ _ _ _ ?_ (matchO_0 ?_)).1
 ·simp [Try.f48]
 ·simp
theorem w_cases_order_api_Pin_cases_pin (k : Nat) (v0 : (List api_Pin)) (v1 : (List api_Pin)) (v2 : Int) (hF : cases_order_api_Pin_cases_pin k v0 v1 = some v2) :
  FCall Try.prog 47 [AV.lst false false (List.map api_Pin.av v0), AV.lst false false (List.map api_Pin.av v1), AV.fn 48 []] [] (AV.int .i64 v2) [] := by
 unfold cases_order_api_Pin_cases_pin at hF
 refine EN Try.func47 ?_
 intro c0 w0 Q h0 hQ
 refine WK [(0, AV.lst false false (List.map api_Pin.av v0)), (1, AV.lst false false (List.map api_Pin.av v1)), (2, AV.fn 48 [])] [] 0 (by simp) (by simp) ?_
 refine SQ [] [none] fun _ _ g r => ?_
 try simp
 and_intros <;> first | exact g _ (by kernel_rfl) | refine r _ _ _ ?_ | omega | (simp [maxLen] <;> omega)
 refine WK [(0, AV.lst false false (List.map api_Pin.av v0)), (1, AV.lst false false (List.map api_Pin.av v1)), (2, AV.fn 48 [])] [] 0 (by simp) (by simp) ?_
 refine AW.seq fun K155 hK155 => ?_
 refine SQ [] [none, none, none, none, none, none] fun _ _ g r => ?_
 obtain ⟨v3, h1, hF⟩ := let1_elim hF
 have h1_ := h1
 try simp at h1_
 try simp [h1, h1_]
 and_intros <;> first | exact g _ (by kernel_rfl) | refine r _ _ _ ?_ | omega | (simp [h1, h1_, maxLen] <;> omega)
 refine WK [(0, AV.lst false false (List.map api_Pin.av v0)), (1, AV.lst false false (List.map api_Pin.av v1)), (2, AV.fn 48 []), (13, Iz v3), (14, Iz 0)] [] 0 (by simp [h1, h1_]) (by simp [h1, h1_]) ?_
 refine AW.block ?_
 refine AW.loopF (α := Int) (fun n v4 => cases_order_api_Pin_cases_pin.L1 k v0 v1 v3 n v4 = some v2) (fun v4 => [(0, AV.lst false false (List.map api_Pin.av v0)), (1, AV.lst false false (List.map api_Pin.av v1)), (2, AV.fn 48 []), (13, Iz v3), (14, Iz v4)]) (fun v4 => []) 0 k (0) hF (by simp [h1, h1_]) (by simp [h1, h1_]) (by simp) ?_
 rintro (_|n1) v4 hF K193 hK193
 ·try dsimp only at hF
  rw [cases_order_api_Pin_cases_pin.L1] at hF; cases hF
 try dsimp only at hF
 rw [cases_order_api_Pin_cases_pin.L1] at hF
 refine SQ [] [none] fun _ _ g r => ?_
 try simp [h1, h1_]
 and_intros <;> first | exact g _ (by kernel_rfl) | refine r _ _ _ ?_ | omega | (simp [h1, h1_, maxLen] <;> omega)
 refine WK [(0, AV.lst false false (List.map api_Pin.av v0)), (1, AV.lst false false (List.map api_Pin.av v1)), (2, AV.fn 48 []), (13, Iz v3), (14, Iz v4), (15, AV.bool (decide (v4 < v3)))] [] 0 (by simp [h1, h1_]) (by simp [h1, h1_]) ?_
 refine AW.seq fun K195 hK195 => ?_
 by_cases h2 : v4 < v3
 ·replace hF := ite_t h2 hF
  have h2_ := h2
  try simp at h2_
  have F1 := And.intro h1 (And.intro h1_ (And.intro h2 h2_))
  refine CT (by simp [F1] <;> omega) ?_
  refine AW.skip ?_
  refine hK195 _ _ _ ?_
  refine AW.seq fun K200 hK200 => ?_
  refine AW.block ?_
  refine SQ [] [none, none] fun _ _ g r => ?_
  try simp [F1]
  and_intros <;> first | exact g _ (by kernel_rfl) | refine r _ _ _ ?_ | omega | (simp [maxLen, F1] <;> omega)
  refine WK [(0, AV.lst false false (List.map api_Pin.av v0)), (1, AV.lst false false (List.map api_Pin.av v1)), (2, AV.fn 48 []), (7, Iz v4), (13, Iz v3), (14, Iz v4)] [] 0 (by simp [F1]) (by simp [F1]) ?_
  refine SQ [] [none, none, none, none, none, none, none, none, none, none, none] fun _ _ g r => ?_
  obtain ⟨v5, h3, h4, h5, hF⟩ := idx_elim hF
  have h5_ := get_of h5
  try simp at h5_
  have h4_ := h4
  try simp at h4_
  obtain ⟨v6, h6, h7, h8, hF⟩ := idx_elim hF
  have h8_ := get_of h8
  try simp at h8_
  have h7_ := h7
  try simp at h7_
  have F2 := And.intro F1 (And.intro h3 (And.intro h4 (And.intro h5 (And.intro h5_ (And.intro h4_ (And.intro h6 (And.intro h7 (And.intro h8 (And.intro h8_ h7_)))))))))
  try simp [F2]
  and_intros
  try any_goals first | omega | (simp [maxLen, F2] <;> omega)
  obtain ⟨v7, h9, hF⟩ := bnd1_elim hF
  refine AC (w_cases_pin k _ _ _ _ _ _ _ h9) (.cons (.same (by simp [F2])) (.cons (.same (by simp [F2])) .nil)) ?_
  try simp [F2]
  and_intros <;> first | exact g _ (by kernel_rfl) | refine r _ _ _ ?_ | omega | (simp [maxLen, F2] <;> omega)
  refine WK [(0, AV.lst false false (List.map api_Pin.av v0)), (1, AV.lst false false (List.map api_Pin.av v1)), (2, AV.fn 48 []), (8, Iz v7), (13, Iz v3), (14, Iz v4)] [] 0 (by simp [F2]) (by simp [F2]) ?_
  refine SQ [] [none, none] fun _ _ g r => ?_
  try simp [F2]
  and_intros <;> first | exact g _ (by kernel_rfl) | refine r _ _ _ ?_ | omega | (simp [maxLen, F2] <;> omega)
  refine WK [(0, AV.lst false false (List.map api_Pin.av v0)), (1, AV.lst false false (List.map api_Pin.av v1)), (2, AV.fn 48 []), (8, Iz v7), (13, Iz v3), (14, Iz v4), (28, AV.bool (v7 != 0))] [] 0 (by simp [F2]) (by simp [F2]) ?_
  by_cases h10 : v7 ≠ 0
  ·replace hF := ite_t h10 hF
   have h10_ := eqb_f h10
   have h10__ := neb_t h10
   have F3 := And.intro F2 (And.intro h10 (And.intro h10_ h10__))
   refine CT (by simp [F3] <;> omega) ?_
   refine SQ [] [none, none] fun _ _ g r => ?_
   try simp [F3]
   and_intros <;> first | exact g _ (by kernel_rfl) | refine r _ _ _ ?_ | omega | (simp [maxLen, F3] <;> omega)
   refine WK [(6, Iz v7)] [] 0 (by simp [F3]) (by simp [F3]) ?_
   simp only [Option.some.injEq] at hF
   subst hF
   refine AW.ret (hQ _ _ _ ?_ (matchO_0 ?_)).1
   ·simp [Try.f47, F3]
   ·simp [F3]
  ·replace hF := ite_f h10 hF
   have h10q : v7 = 0 := Classical.not_not.1 h10
   have h10_ := eqb_t h10q
   have h10__ := neb_f h10q
   have F4 := And.intro F2 (And.intro h10_ (And.intro h10__ h10q))
   refine CF (by simp [F4] <;> omega) ?_
   refine AW.skip ?_
   refine hK200 _ _ _ ?_
   refine RG [] [none, none] fun _ _ g r => ?_
   try simp [F4]
   and_intros <;> first | exact g _ (by kernel_rfl) | refine r _ _ _ ?_ | omega | (simp [maxLen, F4] <;> omega)
   refine hK193 _ _ _ ?_
   exact NX (k' := n1) (IntKind.wrap .i64 (v4 + 1)) hF (by simp [F4]) (by simp [F4])
 ·replace hF := ite_f h2 hF
  have h2_ := h2
  try simp at h2_
  have F5 := And.intro h1 (And.intro h1_ (And.intro h2 h2_))
  refine CF (by simp [F5] <;> omega) ?_
  refine AW.exit ?_
  try simp
  refine hK155 _ _ _ ?_
  refine SQ [] [none, none, none, none, none, none] fun _ _ g r => ?_
  try simp [F5]
  and_intros
  try any_goals first | omega | (simp [maxLen, F5] <;> omega)
  obtain ⟨v8, h11, hF⟩ := bnd1_elim hF
  refine AC (w_cmp_Compare_int k _ _ _ h11) (.cons (.same (by simp [F5])) (.cons (.same (by simp [F5])) .nil)) ?_
  try simp [F5]
  and_intros <;> first | exact g _ (by kernel_rfl) | refine r _ _ _ ?_ | omega | (simp [maxLen, F5] <;> omega)
  refine WK [(6, Iz v8)] [] 0 (by simp [F5]) (by simp [F5]) ?_
  simp only [Option.some.injEq] at hF
  subst hF
  refine AW.ret (hQ _ _ _ ?_ (matchO_0 ?_)).1
  ·simp [Try.f47, F5]
  ·simp [F5]
theorem w_cases_Order (k : Nat) (v0 : (List Int)) (v1 : (List api_Pin)) (v2 : (List Int)) (v3 : (List api_Pin)) (v4 : Int) (hF : cases_Order k v0 v1 v2 v3 = some v4) :
  FCall Try.prog 30 [AV.agg [AV.lst false false (List.map (AV.int .i64) v0), AV.lst false false (List.map api_Pin.av v1)], AV.agg [AV.lst false false (List.map (AV.int .i64) v2), AV.lst false false (List.map api_Pin.av v3)]] [] (AV.int .i64 v4) [] := by
 unfold cases_Order at hF
 refine EN Try.func30 ?_
 intro c0 w0 Q h0 hQ
 refine WK [(0, AV.agg [Lz v0, AV.lst false false (List.map api_Pin.av v1)]), (1, AV.agg [Lz v2, AV.lst false false (List.map api_Pin.av v3)])] [] 0 (by simp) (by simp) ?_
 refine SQ [] [none, none, none] fun _ _ g r => ?_
 try simp
 and_intros <;> first | exact g _ (by kernel_rfl) | refine r _ _ _ ?_ | omega | (simp [maxLen] <;> omega)
 refine WK [(2, AV.ptr 0 0), (3, AV.ptr 1 0)] [(0, .cells [Lz v0, AV.lst false false (List.map api_Pin.av v1)]), (1, .cells [Lz v2, AV.lst false false (List.map api_Pin.av v3)])] 2 (by simp) (by simp) ?_
 refine SQ [] [none, none, none, none, none, none, none, none, none, none, none, none, none] fun _ _ g r => ?_
 try simp
 and_intros
 try any_goals first | omega | (simp [maxLen] <;> omega)
 obtain ⟨v5, h1, hF⟩ := bnd1_elim hF
 refine AC (w_cases_order_int_Compare_int k _ _ _ h1) (.cons (.same (by simp)) (.cons (.same (by simp)) (.cons (.same (by simp)) .nil))) ?_
 try simp
 and_intros
 try any_goals first | omega | (simp [maxLen] <;> omega)
 obtain ⟨v6, h2, hF⟩ := bnd1_elim hF
 refine AC (w_cases_order_api_Pin_cases_pin k _ _ _ h2) (.cons (.same (by simp)) (.cons (.same (by simp)) (.cons (.same (by simp)) .nil))) ?_
 try simp
 and_intros
 try any_goals first | omega | (simp [maxLen] <;> omega)
 obtain ⟨v7, h3, hF⟩ := bnd1_elim hF
 refine AC (w_cmp_Or_int k _ _ h3) (.cons (Coe.fl (by simp)) .nil) ?_
 try simp
 and_intros <;> first | exact g _ (by kernel_rfl) | refine r _ _ _ ?_ | omega | (simp [maxLen] <;> omega)
 refine WK [(4, Iz v7)] [] 2 (by simp) (by simp) ?_
 simp only [Option.some.injEq] at hF
 subst hF
 refine AW.ret (hQ _ _ _ ?_ (matchO_0 ?_)).1
 ·simp [Try.f30]
 ·simp
theorem w_ref23_SameInts (k : Nat) (v0 : (List Int)) (v1 : (List Int)) (v2 : Bool) (hF : ref23_SameInts k v0 v1 = some v2) :
  FCall Try.prog 35 [AV.lst false false (List.map (AV.int .i64) v0), AV.lst false false (List.map (AV.int .i64) v1)] [] (AV.bool v2) [] := by
 unfold ref23_SameInts at hF
 refine EN Try.func35 ?_
 intro c0 w0 Q h0 hQ
 refine WK [(0, Lz v0), (1, Lz v1)] [] 0 (by simp) (by simp) ?_
 refine SQ [] [none] fun _ _ g r => ?_
 try simp
 and_intros <;> first | exact g _ (by kernel_rfl) | refine r _ _ _ ?_ | omega | (simp [maxLen] <;> omega)
 refine WK [(0, Lz v0), (1, Lz v1)] [] 0 (by simp) (by simp) ?_
 refine AW.seq fun K88 hK88 => ?_
 refine SQ [] [none, none, none, none, none] fun _ _ g r => ?_
 try simp
 and_intros <;> first | exact g _ (by kernel_rfl) | refine r _ _ _ ?_ | omega | (simp [maxLen] <;> omega)
 refine WK [(0, Lz v0), (1, Lz v1), (10, AV.bool ((v0.length : Int) != (v1.length : Int)))] [] 0 (by simp) (by simp) ?_
 by_cases h1 : (v0.length : Int) ≠ (v1.length : Int)
 ·replace hF := ite_t h1 hF
  have h1_ := eqb_f h1
  have h1__ := neb_t h1
  have F1 := And.intro h1 (And.intro h1_ h1__)
  refine CT (by simp [F1] <;> omega) ?_
  refine SQ [] [none] fun _ _ g r => ?_
  try simp [F1]
  and_intros <;> first | exact g _ (by kernel_rfl) | refine r _ _ _ ?_ | omega | (simp [maxLen, F1] <;> omega)
  refine WK [(4, AV.bool false)] [] 0 (by simp [F1]) (by simp [F1]) ?_
  simp only [Option.some.injEq] at hF
  subst hF
  refine AW.ret (hQ _ _ _ ?_ (matchO_0 ?_)).1
  ·simp [Try.f35, F1]
  ·simp [F1]
 ·replace hF := ite_f h1 hF
  have h1q : (v0.length : Int) = (v1.length : Int) := Classical.not_not.1 h1
  have h1_ := eqb_t h1q
  have h1__ := neb_f h1q
  refine CF (by simp [h1_, h1__] <;> omega) ?_
  refine AW.skip ?_
  refine hK88 _ _ _ ?_
  refine AW.seq fun K129 hK129 => ?_
  refine SQ [] [none] fun _ _ g r => ?_
  try simp [h1_, h1__]
  and_intros <;> first | exact g _ (by kernel_rfl) | refine r _ _ _ ?_ | omega | (simp [h1_, h1__, maxLen] <;> omega)
  refine WK [(0, Lz v0), (1, Lz v1), (5, Iz 0)] [] 0 (by simp [h1_, h1__]) (by simp [h1_, h1__]) ?_
  refine AW.block ?_
  refine AW.loopF (α := Int) (fun n v3 => ref23_SameInts.L1 k v0 v1 n v3 = some v2) (fun v3 => [(0, Lz v0), (1, Lz v1), (5, Iz v3)]) (fun v3 => []) 0 k (0) hF (by simp [h1_, h1__]) (by simp [h1_, h1__]) (by simp) ?_
  rintro (_|n1) v3 hF K158 hK158
  ·try dsimp only at hF
   rw [ref23_SameInts.L1] at hF; cases hF
  try dsimp only at hF
  rw [ref23_SameInts.L1] at hF
  refine AW.seq fun K160 hK160 => ?_
  refine SQ [] [none, none, none, none] fun _ _ g r => ?_
  try simp [h1_, h1__]
  and_intros <;> first | exact g _ (by kernel_rfl) | refine r _ _ _ ?_ | omega | (simp [h1_, h1__, maxLen] <;> omega)
  refine WK [(0, Lz v0), (1, Lz v1), (5, Iz v3), (14, AV.bool (decide (v3 < (v0.length : Int))))] [] 0 (by simp [h1_, h1__]) (by simp [h1_, h1__]) ?_
  by_cases h2 : v3 < (v0.length : Int)
  ·replace hF := ite_t h2 hF
   have h2_ := h2
   try simp at h2_
   have F2 := And.intro h1_ (And.intro h1__ (And.intro h2 h2_))
   refine CT (by simp [F2] <;> omega) ?_
   refine AW.skip ?_
   refine hK160 _ _ _ ?_
   refine AW.seq fun K164 hK164 => ?_
   refine AW.block ?_
   refine SQ [] [none, none, none, none, none, none, none, none, none] fun _ _ g r => ?_
   obtain ⟨v4, h3, h4, h5, hF⟩ := idx_elim hF
   have h5_ := get_of h5
   try simp at h5_
   have h4_ := h4
   try simp at h4_
   obtain ⟨v5, h6, h7, h8, hF⟩ := idx_elim hF
   have h8_ := get_of h8
   try simp at h8_
   have h7_ := h7
   try simp at h7_
   have F3 := And.intro F2 (And.intro h3 (And.intro h4 (And.intro h5 (And.intro h5_ (And.intro h4_ (And.intro h6 (And.intro h7 (And.intro h8 (And.intro h8_ h7_)))))))))
   try simp [F3]
   and_intros <;> first | exact g _ (by kernel_rfl) | refine r _ _ _ ?_ | omega | (simp [maxLen, F3] <;> omega)
   refine WK [(0, Lz v0), (1, Lz v1), (5, Iz v3), (25, AV.bool (v4 != v5))] [] 0 (by simp [F3]) (by simp [F3]) ?_
   by_cases h9 : v4 ≠ v5
   ·replace hF := ite_t h9 hF
    have h9_ := eqb_f h9
    have h9__ := neb_t h9
    have F4 := And.intro F3 (And.intro h9 (And.intro h9_ h9__))
    refine CT (by simp [F4] <;> omega) ?_
    refine SQ [] [none] fun _ _ g r => ?_
    try simp [F4]
    and_intros <;> first | exact g _ (by kernel_rfl) | refine r _ _ _ ?_ | omega | (simp [maxLen, F4] <;> omega)
    refine WK [(4, AV.bool false)] [] 0 (by simp [F4]) (by simp [F4]) ?_
    simp only [Option.some.injEq] at hF
    subst hF
    refine AW.ret (hQ _ _ _ ?_ (matchO_0 ?_)).1
    ·simp [Try.f35, F4]
    ·simp [F4]
   ·replace hF := ite_f h9 hF
    have h9q : v4 = v5 := Classical.not_not.1 h9
    have h9_ := eqb_t h9q
    have h9__ := neb_f h9q
    have F5 := And.intro F3 (And.intro h9_ h9__)
    refine CF (by simp [F5] <;> omega) ?_
    refine AW.skip ?_
    refine hK164 _ _ _ ?_
    refine RG [] [none, none, none] fun _ _ g r => ?_
    try simp [F5]
    and_intros <;> first | exact g _ (by kernel_rfl) | refine r _ _ _ ?_ | omega | (simp [maxLen, F5] <;> omega)
    refine hK158 _ _ _ ?_
    exact NX (k' := n1) (IntKind.wrap .i64 (v3 + 1)) hF (by simp [F5]) (by simp [F5])
  ·replace hF := ite_f h2 hF
   have h2_ := h2
   try simp at h2_
   have F6 := And.intro h1_ (And.intro h1__ (And.intro h2 h2_))
   refine CF (by simp [F6] <;> omega) ?_
   refine AW.exit ?_
   try simp
   refine hK129 _ _ _ ?_
   refine SQ [] [none] fun _ _ g r => ?_
   try simp [F6]
   and_intros <;> first | exact g _ (by kernel_rfl) | refine r _ _ _ ?_ | omega | (simp [maxLen, F6] <;> omega)
   refine WK [(4, AV.bool true)] [] 0 (by simp [F6]) (by simp [F6]) ?_
   simp only [Option.some.injEq] at hF
   subst hF
   refine AW.ret (hQ _ _ _ ?_ (matchO_0 ?_)).1
   ·simp [Try.f35, F6]
   ·simp [F6]
theorem w_law23_samePins (k : Nat) (v0 : (List api_Pin)) (v1 : (List api_Pin)) (v2 : Bool) (hF : law23_samePins k v0 v1 = some v2) :
  FCall Try.prog 36 [AV.lst false false (List.map api_Pin.av v0), AV.lst false false (List.map api_Pin.av v1)] [] (AV.bool v2) [] := by
 unfold law23_samePins at hF
 refine EN Try.func36 ?_
 intro c0 w0 Q h0 hQ
 refine WK [(0, AV.lst false false (List.map api_Pin.av v0)), (1, AV.lst false false (List.map api_Pin.av v1))] [] 0 (by simp) (by simp) ?_
 refine SQ [] [none] fun _ _ g r => ?_
 try simp
 and_intros <;> first | exact g _ (by kernel_rfl) | refine r _ _ _ ?_ | omega | (simp [maxLen] <;> omega)
 refine WK [(0, AV.lst false false (List.map api_Pin.av v0)), (1, AV.lst false false (List.map api_Pin.av v1))] [] 0 (by simp) (by simp) ?_
 refine AW.seq fun K88 hK88 => ?_
 refine SQ [] [none, none, none, none, none] fun _ _ g r => ?_
 try simp
 and_intros <;> first | exact g _ (by kernel_rfl) | refine r _ _ _ ?_ | omega | (simp [maxLen] <;> omega)
 refine WK [(0, AV.lst false false (List.map api_Pin.av v0)), (1, AV.lst false false (List.map api_Pin.av v1)), (10, AV.bool ((v0.length : Int) != (v1.length : Int)))] [] 0 (by simp) (by simp) ?_
 by_cases h1 : (v0.length : Int) ≠ (v1.length : Int)
 ·replace hF := ite_t h1 hF
  have h1_ := eqb_f h1
  have h1__ := neb_t h1
  have F1 := And.intro h1 (And.intro h1_ h1__)
  refine CT (by simp [F1] <;> omega) ?_
  refine SQ [] [none] fun _ _ g r => ?_
  try simp [F1]
  and_intros <;> first | exact g _ (by kernel_rfl) | refine r _ _ _ ?_ | omega | (simp [maxLen, F1] <;> omega)
  refine WK [(4, AV.bool false)] [] 0 (by simp [F1]) (by simp [F1]) ?_
  simp only [Option.some.injEq] at hF
  subst hF
  refine AW.ret (hQ _ _ _ ?_ (matchO_0 ?_)).1
  ·simp [Try.f36, F1]
  ·simp [F1]
 ·replace hF := ite_f h1 hF
  have h1q : (v0.length : Int) = (v1.length : Int) := Classical.not_not.1 h1
  have h1_ := eqb_t h1q
  have h1__ := neb_f h1q
  refine CF (by simp [h1_, h1__] <;> omega) ?_
  refine AW.skip ?_
  refine hK88 _ _ _ ?_
  refine AW.seq fun K129 hK129 => ?_
  refine SQ [] [none] fun _ _ g r => ?_
  try simp [h1_, h1__]
  and_intros <;> first | exact g _ (by kernel_rfl) | refine r _ _ _ ?_ | omega | (simp [h1_, h1__, maxLen] <;> omega)
  refine WK [(0, AV.lst false false (List.map api_Pin.av v0)), (1, AV.lst false false (List.map api_Pin.av v1)), (5, Iz 0)] [] 0 (by simp [h1_, h1__]) (by simp [h1_, h1__]) ?_
  refine AW.block ?_
  refine AW.loopF (α := Int) (fun n v3 => law23_samePins.L1 k v0 v1 n v3 = some v2) (fun v3 => [(0, AV.lst false false (List.map api_Pin.av v0)), (1, AV.lst false false (List.map api_Pin.av v1)), (5, Iz v3)]) (fun v3 => []) 0 k (0) hF (by simp [h1_, h1__]) (by simp [h1_, h1__]) (by simp) ?_
  rintro (_|n1) v3 hF K158 hK158
  ·try dsimp only at hF
   rw [law23_samePins.L1] at hF; cases hF
  try dsimp only at hF
  rw [law23_samePins.L1] at hF
  refine AW.seq fun K160 hK160 => ?_
  refine SQ [] [none, none, none, none] fun _ _ g r => ?_
  try simp [h1_, h1__]
  and_intros <;> first | exact g _ (by kernel_rfl) | refine r _ _ _ ?_ | omega | (simp [h1_, h1__, maxLen] <;> omega)
  refine WK [(0, AV.lst false false (List.map api_Pin.av v0)), (1, AV.lst false false (List.map api_Pin.av v1)), (5, Iz v3), (14, AV.bool (decide (v3 < (v0.length : Int))))] [] 0 (by simp [h1_, h1__]) (by simp [h1_, h1__]) ?_
  by_cases h2 : v3 < (v0.length : Int)
  ·replace hF := ite_t h2 hF
   have h2_ := h2
   try simp at h2_
   have F2 := And.intro h1_ (And.intro h1__ (And.intro h2 h2_))
   refine CT (by simp [F2] <;> omega) ?_
   refine AW.skip ?_
   refine hK160 _ _ _ ?_
   refine AW.seq fun K164 hK164 => ?_
   refine AW.block ?_
   refine SQ [] [none, none, none, none, none, none, none, none, none] fun _ _ g r => ?_
   obtain ⟨v4, h3, h4, h5, hF⟩ := idx_elim hF
   have h5_ := get_of h5
   try simp at h5_
   have h4_ := h4
   try simp at h4_
   obtain ⟨v5, h6, h7, h8, hF⟩ := idx_elim hF
   have h8_ := get_of h8
   try simp at h8_
   have h7_ := h7
   try simp at h7_
   obtain ⟨v6, h9, hF⟩ := let1_elim hF
   have h9_ := h9
   try simp at h9_
   have F3 := And.intro F2 (And.intro h3 (And.intro h4 (And.intro h5 (And.intro h5_ (And.intro h4_ (And.intro h6 (And.intro h7 (And.intro h8 (And.intro h8_ (And.intro h7_ (And.intro h9 h9_)))))))))))
   try simp [F3]
   and_intros <;> first | exact g _ (by kernel_rfl) | refine r _ _ _ ?_ | omega | (simp [maxLen, F3] <;> omega)
   refine WK [(0, AV.lst false false (List.map api_Pin.av v0)), (1, AV.lst false false (List.map api_Pin.av v1)), (5, Iz v3), (25, AV.bool (!v6))] [] 0 (by simp [F3]) (by simp [F3]) ?_
   by_cases h10 : (!v6) = true
   ·replace hF := ite_t h10 hF
    have h10_ := h10
    try simp at h10_
    have F4 := And.intro F3 (And.intro h10 h10_)
    refine CT (by simp [F4] <;> omega) ?_
    refine SQ [] [none] fun _ _ g r => ?_
    try simp [F4]
    and_intros <;> first | exact g _ (by kernel_rfl) | refine r _ _ _ ?_ | omega | (simp [maxLen, F4] <;> omega)
    refine WK [(4, AV.bool false)] [] 0 (by simp [F4]) (by simp [F4]) ?_
    simp only [Option.some.injEq] at hF
    subst hF
    refine AW.ret (hQ _ _ _ ?_ (matchO_0 ?_)).1
    ·simp [Try.f36, F4]
    ·simp [F4]
   ·replace hF := ite_f h10 hF
    have h10_ := h10
    try simp at h10_
    have F5 := And.intro F3 (And.intro h10 h10_)
    refine CF (by simp [F5] <;> omega) ?_
    refine AW.skip ?_
    refine hK164 _ _ _ ?_
    refine RG [] [none, none, none] fun _ _ g r => ?_
    try simp [F5]
    and_intros <;> first | exact g _ (by kernel_rfl) | refine r _ _ _ ?_ | omega | (simp [maxLen, F5] <;> omega)
    refine hK158 _ _ _ ?_
    exact NX (k' := n1) (IntKind.wrap .i64 (v3 + 1)) hF (by simp [F5]) (by simp [F5])
  ·replace hF := ite_f h2 hF
   have h2_ := h2
   try simp at h2_
   have F6 := And.intro h1_ (And.intro h1__ (And.intro h2 h2_))
   refine CF (by simp [F6] <;> omega) ?_
   refine AW.exit ?_
   try simp
   refine hK129 _ _ _ ?_
   refine SQ [] [none] fun _ _ g r => ?_
   try simp [F6]
   and_intros <;> first | exact g _ (by kernel_rfl) | refine r _ _ _ ?_ | omega | (simp [maxLen, F6] <;> omega)
   refine WK [(4, AV.bool true)] [] 0 (by simp [F6]) (by simp [F6]) ?_
   simp only [Option.some.injEq] at hF
   subst hF
   refine AW.ret (hQ _ _ _ ?_ (matchO_0 ?_)).1
   ·simp [Try.f36, F6]
   ·simp [F6]
theorem w_law23_CasesOrder (k : Nat) (v0 : (List Int)) (v1 : Bool) (hF : law23_CasesOrder k v0 = some v1) :
  FCall Try.prog 6 [AV.lst false false (List.map (AV.int .i64) v0)] [] (AV.bool v1) [] := by
 unfold law23_CasesOrder at hF
 refine EN Try.func6 ?_
 intro c0 w0 Q h0 hQ
 refine WK [(0, Lz v0)] [] 0 (by simp) (by simp) ?_
 refine SQ [] [none] fun _ _ g r => ?_
 try simp
 and_intros <;> first | exact g _ (by kernel_rfl) | refine r _ _ _ ?_ | omega | (simp [maxLen] <;> omega)
 refine WK [(0, Lz v0)] [] 0 (by simp) (by simp) ?_
 refine AW.seq fun K27 hK27 => ?_
 refine SQ [] [none, none, none] fun _ _ g r => ?_
 try simp
 and_intros
 try any_goals first | omega | (simp [maxLen] <;> omega)
 obtain ⟨v2, h1, hF⟩ := bnd1_elim hF
 refine AC (w_mill_Light k _ _ h1) (.cons (.same (by simp)) .nil) ?_
 try simp
 and_intros <;> first | exact g _ (by kernel_rfl) | refine r _ _ _ ?_ | omega | (simp [maxLen] <;> omega)
 refine WK [(0, Lz v0), (13, AV.bool (!v2))] [] 0 (by simp) (by simp) ?_
 by_cases h2 : (!v2) = true
 ·replace hF := ite_t h2 hF
  have h2_ := h2
  try simp at h2_
  refine CT (by simp [h2, h2_] <;> omega) ?_
  refine SQ [] [none, none] fun _ _ g r => ?_
  try simp [h2, h2_]
  and_intros
  try any_goals first | omega | (simp [h2, h2_, maxLen] <;> omega)
  obtain ⟨v3, h3, hF⟩ := bnd1_elim hF
  refine AC (w_law23_awake k _ h3) .nil ?_
  try simp [h2, h2_]
  and_intros <;> first | exact g _ (by kernel_rfl) | refine r _ _ _ ?_ | omega | (simp [h2, h2_, maxLen] <;> omega)
  refine WK [(2, AV.bool v3)] [] 0 (by simp [h2, h2_]) (by simp [h2, h2_]) ?_
  simp only [Option.some.injEq] at hF
  subst hF
  refine AW.ret (hQ _ _ _ ?_ (matchO_0 ?_)).1
  ·simp [Try.f6, h2, h2_]
  ·simp [h2, h2_]
 ·replace hF := ite_f h2 hF
  have h2_ := h2
  try simp at h2_
  refine CF (by simp [h2, h2_] <;> omega) ?_
  refine AW.skip ?_
  refine hK27 _ _ _ ?_
  refine SQ [] [none, none, none] fun _ _ g r => ?_
  try simp [h2, h2_]
  and_intros
  try any_goals first | omega | (simp [h2, h2_, maxLen] <;> omega)
  obtain ⟨v4, v5, h4, hF⟩ := bnd2_elim hF
  refine AC (w_mill_Roll k _ _ _ h4) (.cons (.same (by simp [h2, h2_])) .nil) ?_
  try simp [h2, h2_]
  and_intros <;> first | exact g _ (by kernel_rfl) | refine r _ _ _ ?_ | omega | (simp [h2, h2_, maxLen] <;> omega)
  refine WK [(3, AV.ptr 0 0)] [(0, .cells [Lz v4, Iz v5])] 1 (by simp [h2, h2_]) (by simp [h2, h2_]) ?_
  refine SQ [] [none, none, none, none] fun _ _ g r => ?_
  try simp [h2, h2_]
  and_intros
  try any_goals first | omega | (simp [h2, h2_, maxLen] <;> omega)
  obtain ⟨v6, v7, v8, v9, v10, h5, hF⟩ := bnd5_elim hF
  refine aCall_l (w_mill_Case k _ _ _ _ _ _ _ _ h5) (by simp) [0] [] [0] rfl (.cons (.same (by simp [h2, h2_])) (.cons (.same (by simp [h2, h2_])) .nil)) (by simp [h2, h2_]) (by decide) (by simp) (by simp) (.inl rfl) (by simp) (by simp) ?_
  try simp [h2, h2_]
  and_intros <;> first | exact g _ (by kernel_rfl) | refine r _ _ _ ?_ | omega | (simp [h2, h2_, maxLen] <;> omega)
  refine WK [(3, AV.ptr 0 0), (4, AV.ptr 1 0)] [(0, .cells [Lz v4, Iz v10]), (1, .cells [Iz v6, Iz v7, Iz v8, Iz v9])] 2 (by simp [h2, h2_]) (by simp [h2, h2_]) ?_
  refine SQ [] [none, none, none, none, none, none, none, none, none, none, none, none, none, none, none] fun _ _ g r => ?_
  try simp [h2, h2_]
  and_intros
  try any_goals first | omega | (simp [h2, h2_, maxLen] <;> omega)
  obtain ⟨v11, v12, v13, h6, hF⟩ := bnd3_elim hF
  refine aCall_l (w_mill_Content k _ _ _ _ _ _ _ _ _ h6) (by simp) [0] [] [0] rfl (.cons (.same (by simp [h2, h2_])) (.cons (.same (by simp [h2, h2_])) .nil)) (by simp [h2, h2_]) (by decide) (by simp) (by simp) (.inl rfl) (by simp) (by simp) ?_
  try simp [h2, h2_]
  and_intros
  try any_goals first | omega | (simp [h2, h2_, maxLen] <;> omega)
  obtain ⟨v14, v15, v16, h7, hF⟩ := bnd3_elim hF
  refine aCall_l (w_mill_Content k _ _ _ _ _ _ _ _ _ h7) (by simp) [0] [] [0] rfl (.cons (.same (by simp [h2, h2_])) (.cons (.same (by simp [h2, h2_])) .nil)) (by simp [h2, h2_]) (by decide) (by simp) (by simp) (.inl rfl) (by simp) (by simp) ?_
  try simp [h2, h2_]
  and_intros
  try any_goals first | omega | (simp [h2, h2_, maxLen] <;> omega)
  obtain ⟨v17, v18, v19, h8, hF⟩ := bnd3_elim hF
  refine aCall_l (w_mill_Content k _ _ _ _ _ _ _ _ _ h8) (by simp) [0] [] [0] rfl (.cons (.same (by simp [h2, h2_])) (.cons (.same (by simp [h2, h2_])) .nil)) (by simp [h2, h2_]) (by decide) (by simp) (by simp) (.inl rfl) (by simp) (by simp) ?_
  try simp [h2, h2_]
  and_intros <;> first | exact g _ (by kernel_rfl) | refine r _ _ _ ?_ | omega | (simp [h2, h2_, maxLen] <;> omega)
  refine WK [(3, AV.ptr 0 0), (5, AV.ptr 2 0), (6, AV.ptr 3 0), (7, AV.ptr 4 0)] [(0, .cells [Lz v4, Iz v19]), (2, .cells [Lz v11, AV.lst false false (List.map api_Pin.av v12)]), (3, .cells [Lz v14, AV.lst false false (List.map api_Pin.av v15)]), (4, .cells [Lz v17, AV.lst false false (List.map api_Pin.av v18)])] 5 (by simp [h2, h2_]) (by simp [h2, h2_]) ?_
  refine AW.midF (α := ((List Int) × (List api_Pin))) (fun (v20, v21) => law23_CasesOrder.J1 k v11 v12 v17 v18 v20 v21 = some v1) (fun (v20, v21) => [(5, AV.ptr 0 0), (6, AV.ptr 1 0), (7, AV.ptr 2 0)]) (fun (v20, v21) => [(0, .cells [Lz v11, AV.lst false false (List.map api_Pin.av v12)]), (1, .cells [Lz v20, AV.lst false false (List.map api_Pin.av v21)]), (2, .cells [Lz v17, AV.lst false false (List.map api_Pin.av v18)])]) 3 (fun K44 hK44 => ?_) ?_
  ·refine SQ [] [none, none] fun _ _ g r => ?_
   try simp [h2, h2_]
   and_intros
   try any_goals first | omega | (simp [h2, h2_, maxLen] <;> omega)
   obtain ⟨v31, v32, h41, hF⟩ := bnd2_elim hF
   refine aCall_l (w_made_Dice_One k _ _ _ _ _ h41) (by simp) [0] [] [0] rfl (.cons (.same (by simp [h2, h2_])) (.cons (.same (by simp [h2, h2_])) .nil)) (by simp [h2, h2_]) (by decide) (by simp) (by simp) (.inl rfl) (by simp) (by simp) ?_
   try simp [h2, h2_]
   and_intros <;> first | exact g _ (by kernel_rfl) | refine r _ _ _ ?_ | omega | (simp [h2, h2_, maxLen] <;> omega)
   refine WK [(5, AV.ptr 2 0), (6, AV.ptr 3 0), (7, AV.ptr 4 0), (29, AV.bool v31)] [(2, .cells [Lz v11, AV.lst false false (List.map api_Pin.av v12)]), (3, .cells [Lz v14, AV.lst false false (List.map api_Pin.av v15)]), (4, .cells [Lz v17, AV.lst false false (List.map api_Pin.av v18)])] 5 (by simp [h2, h2_]) (by simp [h2, h2_]) ?_
   by_cases h42 : v31 = true
   ·replace hF := ite_t h42 hF
    have h42_ := h42
    try simp at h42_
    have F1 := And.intro h2 (And.intro h2_ (And.intro h42 h42_))
    refine CT (by simp [F1] <;> omega) ?_
    refine RG [] [none, none, none] fun _ _ g r => ?_
    try simp [F1]
    and_intros
    try any_goals first | omega | (simp [maxLen, F1] <;> omega)
    obtain ⟨v33, v34, h43, hF⟩ := bnd2_elim hF
    refine AC (w_law23_ref23copy k _ _ _ _ h43) (.cons (.same (by simp [F1])) .nil) ?_
    try simp [F1]
    and_intros <;> first | exact g _ (by kernel_rfl) | refine r _ _ _ ?_ | omega | (simp [maxLen, F1] <;> omega)
    refine hK44 _ _ _ ?_
    refine RN h0 [(0, 2), (1, 3), (2, 4)] [(5, AV.ptr 0 0), (6, AV.ptr 1 0), (7, AV.ptr 2 0)] [(0, .cells [Lz v11, AV.lst false false (List.map api_Pin.av v12)]), (1, .cells [Lz v33, AV.lst false false (List.map api_Pin.av v34)]), (2, .cells [Lz v17, AV.lst false false (List.map api_Pin.av v18)])] 3 (by simp [F1]) (by simp [F1]) ?_
    exact JN ((v33, v34)) hF (by simp [F1]) (by simp [F1])
   ·replace hF := ite_f h42 hF
    have h42_ := h42
    try simp at h42_
    have F2 := And.intro h2 (And.intro h2_ (And.intro h42 h42_))
    refine CF (by simp [F2] <;> omega) ?_
    refine AW.skip ?_
    refine hK44 _ _ _ ?_
    refine RN h0 [(0, 2), (1, 3), (2, 4)] [(5, AV.ptr 0 0), (6, AV.ptr 1 0), (7, AV.ptr 2 0)] [(0, .cells [Lz v11, AV.lst false false (List.map api_Pin.av v12)]), (1, .cells [Lz v14, AV.lst false false (List.map api_Pin.av v15)]), (2, .cells [Lz v17, AV.lst false false (List.map api_Pin.av v18)])] 3 (by simp [F2]) (by simp [F2]) ?_
    exact JN ((v14, v15)) hF (by simp [F2]) (by simp [F2])
  ·rintro ⟨v20, v21⟩ hF
   try dsimp only at hF
   unfold law23_CasesOrder.J1 at hF
   refine SQ [] [none, none, none, none, none, none, none, none, none, none, none, none] fun _ _ g r => ?_
   try simp [h2, h2_]
   and_intros
   try any_goals first | omega | (simp [h2, h2_, maxLen] <;> omega)
   obtain ⟨v22, h9, hF⟩ := bnd1_elim hF
   refine AC (w_cases_Order k _ _ _ _ _ h9) (.cons (.same (by simp [h2, h2_])) (.cons (.same (by simp [h2, h2_])) .nil)) ?_
   try simp [h2, h2_]
   and_intros
   try any_goals first | omega | (simp [h2, h2_, maxLen] <;> omega)
   obtain ⟨v23, h10, hF⟩ := bnd1_elim hF
   refine AC (w_cases_Order k _ _ _ _ _ h10) (.cons (.same (by simp [h2, h2_])) (.cons (.same (by simp [h2, h2_])) .nil)) ?_
   try simp [h2, h2_]
   and_intros
   try any_goals first | omega | (simp [h2, h2_, maxLen] <;> omega)
   obtain ⟨v24, h11, hF⟩ := bnd1_elim hF
   refine AC (w_cases_Order k _ _ _ _ _ h11) (.cons (.same (by simp [h2, h2_])) (.cons (.same (by simp [h2, h2_])) .nil)) ?_
   try simp [h2, h2_]
   and_intros <;> first | exact g _ (by kernel_rfl) | refine r _ _ _ ?_ | omega | (simp [h2, h2_, maxLen] <;> omega)
   refine WK [(5, AV.ptr 0 0), (6, AV.ptr 1 0), (8, Iz v22), (9, Iz v23), (10, Iz v24)] [(0, .cells [Lz v11, AV.lst false false (List.map api_Pin.av v12)]), (1, .cells [Lz v20, AV.lst false false (List.map api_Pin.av v21)])] 3 (by simp [h2, h2_]) (by simp [h2, h2_]) ?_
   refine AW.seq fun K39 hK39 => ?_
   refine AW.midF (α := Bool) (fun v25 => law23_CasesOrder.J2 k v11 v12 v20 v21 v22 v25 = some v1) (fun v25 => [(5, AV.ptr 0 0), (6, AV.ptr 1 0), (8, Iz v22), (79, AV.bool v25)]) (fun v25 => [(0, .cells [Lz v11, AV.lst false false (List.map api_Pin.av v12)]), (1, .cells [Lz v20, AV.lst false false (List.map api_Pin.av v21)])]) 2 (fun K43 hK43 => ?_) ?_
   ·refine RG [] [none, none, none, none, none, none, none, some (47, false), some (47, false), some (47, false), some (50, true), some (50, true), some (47, false), some (47, false), some (54, true), some (54, true), some (47, false), none, none, some (59, false), some (59, false), some (59, false), some (62, true), some (62, true), some (59, false), some (59, false), some (66, true), some (66, true), some (59, false), none, none, some (71, false), some (71, false), some (71, false), some (74, true), some (74, true), some (74, true), some (71, false), none] fun _ _ g r => ?_
    try simp [h2, h2_]
    and_intros
    try any_goals first | omega | (simp [h2, h2_, maxLen] <;> omega)
    obtain ⟨v30, h20, hF⟩ := bnd1_elim hF
    refine AC (w_cases_Order k _ _ _ _ _ h20) (.cons (.same (by simp [h2, h2_])) (.cons (.same (by simp [h2, h2_])) .nil)) ?_
    by_cases h21 : v22 ≠ (IntKind.wrap .i64 (-v30))
    ·replace hF := ite_t h21 hF
     have h21_ := eqb_f h21
     have h21__ := neb_t h21
     have F3 := And.intro h2 (And.intro h2_ (And.intro h21 (And.intro h21_ h21__)))
     try simp [F3]
     and_intros <;> first | exact g _ (by kernel_rfl) | refine r _ _ _ ?_ | omega | (simp [maxLen, F3] <;> omega)
     refine hK43 _ _ _ ?_
     refine RN h0 [(0, 0), (1, 1)] [(5, AV.ptr 0 0), (6, AV.ptr 1 0), (8, Iz v22), (79, AV.bool true)] [(0, .cells [Lz v11, AV.lst false false (List.map api_Pin.av v12)]), (1, .cells [Lz v20, AV.lst false false (List.map api_Pin.av v21)])] 2 (by simp [F3]) (by simp [F3]) ?_
     exact JN (true) hF (by simp [F3]) (by simp [F3])
    ·replace hF := ite_f h21 hF
     have h21q : v22 = (IntKind.wrap .i64 (-v30)) := Classical.not_not.1 h21
     have h21_ := eqb_t h21q
     have h21__ := neb_f h21q
     by_cases h22 : v22 ≤ 0
     ·replace hF := ite_t h22 hF
      have h22_ := h22
      try simp at h22_
      by_cases h23 : v23 ≤ 0
      ·replace hF := ite_t h23 hF
       have h23_ := h23
       try simp at h23_
       by_cases h24 : 0 < v24
       ·replace hF := ite_t h24 hF
        have h24_ := h24
        try simp at h24_
        have F4 := And.intro h2 (And.intro h2_ (And.intro h21_ (And.intro h21__ (And.intro h22 (And.intro h22_ (And.intro h23 (And.intro h23_ (And.intro h24 h24_))))))))
        try simp [F4]
        and_intros <;> first | exact g _ (by kernel_rfl) | refine r _ _ _ ?_ | omega | (simp [maxLen, F4] <;> omega)
        refine hK43 _ _ _ ?_
        refine RN h0 [(0, 0), (1, 1)] [(5, AV.ptr 0 0), (6, AV.ptr 1 0), (8, Iz v22), (79, AV.bool true)] [(0, .cells [Lz v11, AV.lst false false (List.map api_Pin.av v12)]), (1, .cells [Lz v20, AV.lst false false (List.map api_Pin.av v21)])] 2 (by simp [F4]) (by simp [F4]) ?_
        exact JN (true) hF (by simp [F4]) (by simp [F4])
       ·replace hF := ite_f h24 hF
        have h24_ := h24
        try simp at h24_
        by_cases h25 : 0 ≤ v22
        ·replace hF := ite_t h25 hF
         have h25_ := h25
         try simp at h25_
         by_cases h26 : 0 ≤ v23
         ·replace hF := ite_t h26 hF
          have h26_ := h26
          try simp at h26_
          by_cases h27 : v24 < 0
          ·replace hF := ite_t h27 hF
           have h27_ := h27
           try simp at h27_
           have F5 := And.intro h2 (And.intro h2_ (And.intro h21_ (And.intro h21__ (And.intro h22 (And.intro h22_ (And.intro h23 (And.intro h23_ (And.intro h24 (And.intro h24_ (And.intro h25 (And.intro h25_ (And.intro h26 (And.intro h26_ (And.intro h27 h27_))))))))))))))
           try simp [F5]
           and_intros <;> first | exact g _ (by kernel_rfl) | refine r _ _ _ ?_ | omega | (simp [maxLen, F5] <;> omega)
           refine hK43 _ _ _ ?_
           refine RN h0 [(0, 0), (1, 1)] [(5, AV.ptr 0 0), (6, AV.ptr 1 0), (8, Iz v22), (79, AV.bool true)] [(0, .cells [Lz v11, AV.lst false false (List.map api_Pin.av v12)]), (1, .cells [Lz v20, AV.lst false false (List.map api_Pin.av v21)])] 2 (by simp [F5]) (by simp [F5]) ?_
           exact JN (true) hF (by simp [F5]) (by simp [F5])
          ·replace hF := ite_f h27 hF
           have h27_ := h27
           try simp at h27_
           by_cases h28 : v22 = 0
           ·replace hF := ite_t h28 hF
            have h28q : v22 = 0 := h28
            have h28_ := eqb_t h28q
            have h28__ := neb_f h28q
            have h28__h21 := h21_
            simp only [h28q] at h28__h21
            have h28___h21 := h21__
            simp only [h28q] at h28___h21
            have F6 := And.intro h2 (And.intro h2_ (And.intro h21_ (And.intro h21__ (And.intro h22 (And.intro h22_ (And.intro h23 (And.intro h23_ (And.intro h24 (And.intro h24_ (And.intro h25 (And.intro h25_ (And.intro h26 (And.intro h26_ (And.intro h27 (And.intro h27_ (And.intro h28_ (And.intro h28__ (And.intro h28q (And.intro h28__h21 h28___h21)))))))))))))))))))
            try simp [F6]
            and_intros <;> first | exact g _ (by kernel_rfl) | refine r _ _ _ ?_ | omega | (simp [maxLen, F6] <;> omega)
            refine hK43 _ _ _ ?_
            refine RN h0 [(0, 0), (1, 1)] [(5, AV.ptr 0 0), (6, AV.ptr 1 0), (8, Iz v22), (79, AV.bool (v23 != v24))] [(0, .cells [Lz v11, AV.lst false false (List.map api_Pin.av v12)]), (1, .cells [Lz v20, AV.lst false false (List.map api_Pin.av v21)])] 2 (by simp [F6]) (by simp [F6]) ?_
            exact JN ((v23 != v24)) hF (by simp [F6]) (by simp [F6])
           ·replace hF := ite_f h28 hF
            have h28_ := eqb_f h28
            have h28__ := neb_t h28
            cases hF
         ·replace hF := ite_f h26 hF
          have h26_ := h26
          try simp at h26_
          by_cases h29 : v22 = 0
          ·replace hF := ite_t h29 hF
           have h29q : v22 = 0 := h29
           have h29_ := eqb_t h29q
           have h29__ := neb_f h29q
           have h29__h21 := h21_
           simp only [h29q] at h29__h21
           have h29___h21 := h21__
           simp only [h29q] at h29___h21
           have F7 := And.intro h2 (And.intro h2_ (And.intro h21_ (And.intro h21__ (And.intro h22 (And.intro h22_ (And.intro h23 (And.intro h23_ (And.intro h24 (And.intro h24_ (And.intro h25 (And.intro h25_ (And.intro h26 (And.intro h26_ (And.intro h29_ (And.intro h29__ (And.intro h29q (And.intro h29__h21 h29___h21)))))))))))))))))
           try simp [F7]
           and_intros <;> first | exact g _ (by kernel_rfl) | refine r _ _ _ ?_ | omega | (simp [maxLen, F7] <;> omega)
           refine hK43 _ _ _ ?_
           refine RN h0 [(0, 0), (1, 1)] [(5, AV.ptr 0 0), (6, AV.ptr 1 0), (8, Iz v22), (79, AV.bool (v23 != v24))] [(0, .cells [Lz v11, AV.lst false false (List.map api_Pin.av v12)]), (1, .cells [Lz v20, AV.lst false false (List.map api_Pin.av v21)])] 2 (by simp [F7]) (by simp [F7]) ?_
           exact JN ((v23 != v24)) hF (by simp [F7]) (by simp [F7])
          ·replace hF := ite_f h29 hF
           have h29_ := eqb_f h29
           have h29__ := neb_t h29
           cases hF
        ·replace hF := ite_f h25 hF
         have h25_ := h25
         try simp at h25_
         by_cases h30 : v22 = 0
         ·replace hF := ite_t h30 hF
          have h30q : v22 = 0 := h30
          have h30_ := eqb_t h30q
          have h30__ := neb_f h30q
          have h30__h21 := h21_
          simp only [h30q] at h30__h21
          have h30___h21 := h21__
          simp only [h30q] at h30___h21
          cases hF
         ·replace hF := ite_f h30 hF
          have h30_ := eqb_f h30
          have h30__ := neb_t h30
          have F8 := And.intro h2 (And.intro h2_ (And.intro h21_ (And.intro h21__ (And.intro h22 (And.intro h22_ (And.intro h23 (And.intro h23_ (And.intro h24 (And.intro h24_ (And.intro h25 (And.intro h25_ (And.intro h30 (And.intro h30_ h30__)))))))))))))
          try simp [F8]
          and_intros <;> first | exact g _ (by kernel_rfl) | refine r _ _ _ ?_ | omega | (simp [maxLen, F8] <;> omega)
          refine hK43 _ _ _ ?_
          refine RN h0 [(0, 0), (1, 1)] [(5, AV.ptr 0 0), (6, AV.ptr 1 0), (8, Iz v22), (79, AV.bool false)] [(0, .cells [Lz v11, AV.lst false false (List.map api_Pin.av v12)]), (1, .cells [Lz v20, AV.lst false false (List.map api_Pin.av v21)])] 2 (by simp [F8]) (by simp [F8]) ?_
          exact JN (false) hF (by simp [F8]) (by simp [F8])
      ·replace hF := ite_f h23 hF
       have h23_ := h23
       try simp at h23_
       by_cases h31 : 0 ≤ v22
       ·replace hF := ite_t h31 hF
        have h31_ := h31
        try simp at h31_
        by_cases h32 : 0 ≤ v23
        ·replace hF := ite_t h32 hF
         have h32_ := h32
         try simp at h32_
         by_cases h33 : v24 < 0
         ·replace hF := ite_t h33 hF
          have h33_ := h33
          try simp at h33_
          have F9 := And.intro h2 (And.intro h2_ (And.intro h21_ (And.intro h21__ (And.intro h22 (And.intro h22_ (And.intro h23 (And.intro h23_ (And.intro h31 (And.intro h31_ (And.intro h32 (And.intro h32_ (And.intro h33 h33_))))))))))))
          try simp [F9]
          and_intros <;> first | exact g _ (by kernel_rfl) | refine r _ _ _ ?_ | omega | (simp [maxLen, F9] <;> omega)
          refine hK43 _ _ _ ?_
          refine RN h0 [(0, 0), (1, 1)] [(5, AV.ptr 0 0), (6, AV.ptr 1 0), (8, Iz v22), (79, AV.bool true)] [(0, .cells [Lz v11, AV.lst false false (List.map api_Pin.av v12)]), (1, .cells [Lz v20, AV.lst false false (List.map api_Pin.av v21)])] 2 (by simp [F9]) (by simp [F9]) ?_
          exact JN (true) hF (by simp [F9]) (by simp [F9])
         ·replace hF := ite_f h33 hF
          have h33_ := h33
          try simp at h33_
          by_cases h34 : v22 = 0
          ·replace hF := ite_t h34 hF
           have h34q : v22 = 0 := h34
           have h34_ := eqb_t h34q
           have h34__ := neb_f h34q
           have h34__h21 := h21_
           simp only [h34q] at h34__h21
           have h34___h21 := h21__
           simp only [h34q] at h34___h21
           have F10 := And.intro h2 (And.intro h2_ (And.intro h21_ (And.intro h21__ (And.intro h22 (And.intro h22_ (And.intro h23 (And.intro h23_ (And.intro h31 (And.intro h31_ (And.intro h32 (And.intro h32_ (And.intro h33 (And.intro h33_ (And.intro h34_ (And.intro h34__ (And.intro h34q (And.intro h34__h21 h34___h21)))))))))))))))))
           try simp [F10]
           and_intros <;> first | exact g _ (by kernel_rfl) | refine r _ _ _ ?_ | omega | (simp [maxLen, F10] <;> omega)
           refine hK43 _ _ _ ?_
           refine RN h0 [(0, 0), (1, 1)] [(5, AV.ptr 0 0), (6, AV.ptr 1 0), (8, Iz v22), (79, AV.bool (v23 != v24))] [(0, .cells [Lz v11, AV.lst false false (List.map api_Pin.av v12)]), (1, .cells [Lz v20, AV.lst false false (List.map api_Pin.av v21)])] 2 (by simp [F10]) (by simp [F10]) ?_
           exact JN ((v23 != v24)) hF (by simp [F10]) (by simp [F10])
          ·replace hF := ite_f h34 hF
           have h34_ := eqb_f h34
           have h34__ := neb_t h34
           cases hF
        ·replace hF := ite_f h32 hF
         have h32_ := h32
         try simp at h32_
         cases hF
       ·replace hF := ite_f h31 hF
        have h31_ := h31
        try simp at h31_
        by_cases h35 : v22 = 0
        ·replace hF := ite_t h35 hF
         have h35q : v22 = 0 := h35
         have h35_ := eqb_t h35q
         have h35__ := neb_f h35q
         have h35__h21 := h21_
         simp only [h35q] at h35__h21
         have h35___h21 := h21__
         simp only [h35q] at h35___h21
         cases hF
        ·replace hF := ite_f h35 hF
         have h35_ := eqb_f h35
         have h35__ := neb_t h35
         have F11 := And.intro h2 (And.intro h2_ (And.intro h21_ (And.intro h21__ (And.intro h22 (And.intro h22_ (And.intro h23 (And.intro h23_ (And.intro h31 (And.intro h31_ (And.intro h35 (And.intro h35_ h35__)))))))))))
         try simp [F11]
         and_intros <;> first | exact g _ (by kernel_rfl) | refine r _ _ _ ?_ | omega | (simp [maxLen, F11] <;> omega)
         refine hK43 _ _ _ ?_
         refine RN h0 [(0, 0), (1, 1)] [(5, AV.ptr 0 0), (6, AV.ptr 1 0), (8, Iz v22), (79, AV.bool false)] [(0, .cells [Lz v11, AV.lst false false (List.map api_Pin.av v12)]), (1, .cells [Lz v20, AV.lst false false (List.map api_Pin.av v21)])] 2 (by simp [F11]) (by simp [F11]) ?_
         exact JN (false) hF (by simp [F11]) (by simp [F11])
     ·replace hF := ite_f h22 hF
      have h22_ := h22
      try simp at h22_
      by_cases h36 : 0 ≤ v22
      ·replace hF := ite_t h36 hF
       have h36_ := h36
       try simp at h36_
       by_cases h37 : 0 ≤ v23
       ·replace hF := ite_t h37 hF
        have h37_ := h37
        try simp at h37_
        by_cases h38 : v24 < 0
        ·replace hF := ite_t h38 hF
         have h38_ := h38
         try simp at h38_
         have F12 := And.intro h2 (And.intro h2_ (And.intro h21_ (And.intro h21__ (And.intro h22 (And.intro h22_ (And.intro h36 (And.intro h36_ (And.intro h37 (And.intro h37_ (And.intro h38 h38_))))))))))
         try simp [F12]
         and_intros <;> first | exact g _ (by kernel_rfl) | refine r _ _ _ ?_ | omega | (simp [maxLen, F12] <;> omega)
         refine hK43 _ _ _ ?_
         refine RN h0 [(0, 0), (1, 1)] [(5, AV.ptr 0 0), (6, AV.ptr 1 0), (8, Iz v22), (79, AV.bool true)] [(0, .cells [Lz v11, AV.lst false false (List.map api_Pin.av v12)]), (1, .cells [Lz v20, AV.lst false false (List.map api_Pin.av v21)])] 2 (by simp [F12]) (by simp [F12]) ?_
         exact JN (true) hF (by simp [F12]) (by simp [F12])
        ·replace hF := ite_f h38 hF
         have h38_ := h38
         try simp at h38_
         by_cases h39 : v22 = 0
         ·replace hF := ite_t h39 hF
          have h39q : v22 = 0 := h39
          have h39_ := eqb_t h39q
          have h39__ := neb_f h39q
          have h39__h21 := h21_
          simp only [h39q] at h39__h21
          have h39___h21 := h21__
          simp only [h39q] at h39___h21
          cases hF
         ·replace hF := ite_f h39 hF
          have h39_ := eqb_f h39
          have h39__ := neb_t h39
          have F13 := And.intro h2 (And.intro h2_ (And.intro h21_ (And.intro h21__ (And.intro h22 (And.intro h22_ (And.intro h36 (And.intro h36_ (And.intro h37 (And.intro h37_ (And.intro h38 (And.intro h38_ (And.intro h39 (And.intro h39_ h39__)))))))))))))
          try simp [F13]
          and_intros <;> first | exact g _ (by kernel_rfl) | refine r _ _ _ ?_ | omega | (simp [maxLen, F13] <;> omega)
          refine hK43 _ _ _ ?_
          refine RN h0 [(0, 0), (1, 1)] [(5, AV.ptr 0 0), (6, AV.ptr 1 0), (8, Iz v22), (79, AV.bool false)] [(0, .cells [Lz v11, AV.lst false false (List.map api_Pin.av v12)]), (1, .cells [Lz v20, AV.lst false false (List.map api_Pin.av v21)])] 2 (by simp [F13]) (by simp [F13]) ?_
          exact JN (false) hF (by simp [F13]) (by simp [F13])
       ·replace hF := ite_f h37 hF
        have h37_ := h37
        try simp at h37_
        by_cases h40 : v22 = 0
        ·replace hF := ite_t h40 hF
         have h40q : v22 = 0 := h40
         have h40_ := eqb_t h40q
         have h40__ := neb_f h40q
         have h40__h21 := h21_
         simp only [h40q] at h40__h21
         have h40___h21 := h21__
         simp only [h40q] at h40___h21
         cases hF
        ·replace hF := ite_f h40 hF
         have h40_ := eqb_f h40
         have h40__ := neb_t h40
         have F14 := And.intro h2 (And.intro h2_ (And.intro h21_ (And.intro h21__ (And.intro h22 (And.intro h22_ (And.intro h36 (And.intro h36_ (And.intro h37 (And.intro h37_ (And.intro h40 (And.intro h40_ h40__)))))))))))
         try simp [F14]
         and_intros <;> first | exact g _ (by kernel_rfl) | refine r _ _ _ ?_ | omega | (simp [maxLen, F14] <;> omega)
         refine hK43 _ _ _ ?_
         refine RN h0 [(0, 0), (1, 1)] [(5, AV.ptr 0 0), (6, AV.ptr 1 0), (8, Iz v22), (79, AV.bool false)] [(0, .cells [Lz v11, AV.lst false false (List.map api_Pin.av v12)]), (1, .cells [Lz v20, AV.lst false false (List.map api_Pin.av v21)])] 2 (by simp [F14]) (by simp [F14]) ?_
         exact JN (false) hF (by simp [F14]) (by simp [F14])
      ·replace hF := ite_f h36 hF
       have h36_ := h36
       try simp at h36_
       cases hF
   ·rintro v25 hF
    try dsimp only at hF
    unfold law23_CasesOrder.J2 at hF
    by_cases h12 : v25 = true
    ·replace hF := ite_t h12 hF
     have h12_ := h12
     try simp at h12_
     have F15 := And.intro h2 (And.intro h2_ (And.intro h12 h12_))
     refine CT (by simp [F15] <;> omega) ?_
     refine SQ [] [none] fun _ _ g r => ?_
     try simp [F15]
     and_intros <;> first | exact g _ (by kernel_rfl) | refine r _ _ _ ?_ | omega | (simp [maxLen, F15] <;> omega)
     refine WK [(2, AV.bool false)] [] 2 (by simp [F15]) (by simp [F15]) ?_
     simp only [Option.some.injEq] at hF
     subst hF
     refine AW.ret (hQ _ _ _ ?_ (matchO_0 ?_)).1
     ·simp [Try.f6, F15]
     ·simp [F15]
    ·replace hF := ite_f h12 hF
     have h12_ := h12
     try simp at h12_
     have F16 := And.intro h2 (And.intro h2_ (And.intro h12 h12_))
     refine CF (by simp [F16] <;> omega) ?_
     refine AW.skip ?_
     refine hK39 _ _ _ ?_
     refine SQ [] [none, none, none, none, none, none, none, none, some (87, true), some (87, true), some (87, true), some (87, true), some (87, true), none, none, none, some (95, true), none, none] fun _ _ g r => ?_
     try simp [F16]
     and_intros
     try any_goals first | omega | (simp [maxLen, F16] <;> omega)
     obtain ⟨v26, h13, hF⟩ := bnd1_elim hF
     refine AC (w_ref23_SameInts k _ _ _ h13) (.cons (.same (by simp [F16])) (.cons (.same (by simp [F16])) .nil)) ?_
     by_cases h14 : v26 = true
     ·replace hF := ite_t h14 hF
      have h14_ := h14
      try simp at h14_
      have F17 := And.intro F16 (And.intro h14 h14_)
      try simp [F17]
      and_intros
      try any_goals first | omega | (simp [maxLen, F17] <;> omega)
      obtain ⟨v27, h15, hF⟩ := bnd1_elim hF
      refine AC (w_law23_samePins k _ _ _ h15) (.cons (.same (by simp [F17])) (.cons (.same (by simp [F17])) .nil)) ?_
      by_cases h16 : ((v22 == 0) == v27) = true
      ·replace hF := ite_t h16 hF
       have h16_ := h16
       try simp at h16_
       have F18 := And.intro F17 (And.intro h16 h16_)
       try simp [F18]
       and_intros
       try any_goals first | omega | (simp [maxLen, F18] <;> omega)
       obtain ⟨v28, h17, hF⟩ := bnd1_elim hF
       refine AC (w_law23_awake k _ h17) .nil ?_
       try simp [F18]
       and_intros <;> first | exact g _ (by kernel_rfl) | refine r _ _ _ ?_ | omega | (simp [maxLen, F18] <;> omega)
       refine WK [(2, AV.bool v28)] [] 2 (by simp [F18]) (by simp [F18]) ?_
       simp only [Option.some.injEq] at hF
       subst hF
       refine AW.ret (hQ _ _ _ ?_ (matchO_0 ?_)).1
       ·simp [Try.f6, F18]
       ·simp [F18]
      ·replace hF := ite_f h16 hF
       have h16_ := h16
       try simp at h16_
       have F19 := And.intro F17 (And.intro h16 h16_)
       try simp [F19]
       and_intros <;> first | exact g _ (by kernel_rfl) | refine r _ _ _ ?_ | omega | (simp [maxLen, F19] <;> omega)
       refine WK [(2, AV.bool false)] [] 2 (by simp [F19]) (by simp [F19]) ?_
       simp only [Option.some.injEq] at hF
       subst hF
       refine AW.ret (hQ _ _ _ ?_ (matchO_0 ?_)).1
       ·simp [Try.f6, F19]
       ·simp [F19]
     ·replace hF := ite_f h14 hF
      have h14_ := h14
      try simp at h14_
      by_cases h18 : ((v22 == 0) == false) = true
      ·replace hF := ite_t h18 hF
       have h18_ := h18
       try simp at h18_
       have F20 := And.intro F16 (And.intro h14 (And.intro h14_ (And.intro h18 h18_)))
       try simp [F20]
       and_intros
       try any_goals first | omega | (simp [maxLen, F20] <;> omega)
       obtain ⟨v29, h19, hF⟩ := bnd1_elim hF
       refine AC (w_law23_awake k _ h19) .nil ?_
       try simp [F20]
       and_intros <;> first | exact g _ (by kernel_rfl) | refine r _ _ _ ?_ | omega | (simp [maxLen, F20] <;> omega)
       refine WK [(2, AV.bool v29)] [] 2 (by simp [F20]) (by simp [F20]) ?_
       simp only [Option.some.injEq] at hF
       subst hF
       refine AW.ret (hQ _ _ _ ?_ (matchO_0 ?_)).1
       ·simp [Try.f6, F20]
       ·simp [F20]
      ·replace hF := ite_f h18 hF
       have h18_ := h18
       try simp at h18_
       have F21 := And.intro F16 (And.intro h14 (And.intro h14_ (And.intro h18 h18_)))
       try simp [F21]
       and_intros <;> first | exact g _ (by kernel_rfl) | refine r _ _ _ ?_ | omega | (simp [maxLen, F21] <;> omega)
       refine WK [(2, AV.bool false)] [] 2 (by simp [F21]) (by simp [F21]) ?_
       simp only [Option.some.injEq] at hF
       subst hF
       refine AW.ret (hQ _ _ _ ?_ (matchO_0 ?_)).1
       ·simp [Try.f6, F21]
       ·simp [F21]
end Go.TF
