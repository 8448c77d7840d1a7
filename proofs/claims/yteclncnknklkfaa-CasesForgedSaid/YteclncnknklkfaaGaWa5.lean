/- Walks: the Go text computes the Lean functions (printed by a program of our own). -/
import Derived.Test.YteclncnknklkfaaGaPu
import Derived.Test.YteclncnknklkfaaGaAbsT
import Derived.Test.YteclncnknklkfaaGaWa0
import Derived.Test.YteclncnknklkfaaGaWa1
import Derived.Test.YteclncnknklkfaaGaWa3
import Derived.Test.YteclncnknklkfaaGaWa4
set_option linter.unusedVariables false
set_option linter.unusedSimpArgs false
set_option maxRecDepth 100000
set_option maxHeartbeats 4000000
namespace Go.TF
open Go Go.Abs Go.Proofs Go.Proofs.YteclncnknklkfaaGaT
theorem w_internal_bytealg_CompareString (k : Nat) (v0 : ByteArray) (v1 : ByteArray) (v2 : Int) (hF : internal_bytealg_CompareString k v0 v1 = some v2) :
  FCall Try.prog 67 [AV.str v0, AV.str v1] [] (AV.int .i64 v2) [] := by
 unfold internal_bytealg_CompareString at hF
 refine EN Try.func67 ?_
 intro c0 w0 Q h0 hQ
 refine WK [(0, AV.str v0), (1, AV.str v1)] [] 0 (by simp) (by simp) ?_
 refine SQ [] [none] fun _ _ g r => ?_
 try simp
 and_intros <;> first | exact g _ (by kernel_rfl) | refine r _ _ _ ?_ | omega | (simp [maxLen] <;> omega)
 refine WK [(0, AV.str v0), (1, AV.str v1)] [] 0 (by simp) (by simp) ?_
 refine SQ [] [none, none, none, none] fun _ _ g r => ?_
 try simp
 and_intros
 try any_goals first | omega | (simp [maxLen] <;> omega)
 refine aCall_cmp xcmp ?_
 try simp
 and_intros <;> first | exact g _ (by kernel_rfl) | refine r _ _ _ ?_ | omega | (simp [maxLen] <;> omega)
 refine WK [(4, Iz (Go.Extern.BytealgCompare.cmp v0 v1))] [] 0 (by simp) (by simp) ?_
 simp only [Option.some.injEq] at hF
 subst hF
 refine AW.ret (hQ _ _ _ ?_ (matchO_0 ?_)).1
 ·simp [Try.f67]
 ·simp
theorem w_strings_Compare (k : Nat) (v0 : ByteArray) (v1 : ByteArray) (v2 : Int) (hF : strings_Compare k v0 v1 = some v2) :
  FCall Try.prog 62 [AV.str v0, AV.str v1] [] (AV.int .i64 v2) [] := by
 unfold strings_Compare at hF
 refine EN Try.func62 ?_
 intro c0 w0 Q h0 hQ
 refine WK [(0, AV.str v0), (1, AV.str v1)] [] 0 (by simp) (by simp) ?_
 refine SQ [] [none] fun _ _ g r => ?_
 try simp
 and_intros <;> first | exact g _ (by kernel_rfl) | refine r _ _ _ ?_ | omega | (simp [maxLen] <;> omega)
 refine WK [(0, AV.str v0), (1, AV.str v1)] [] 0 (by simp) (by simp) ?_
 refine SQ [] [none, none, none, none] fun _ _ g r => ?_
 try simp
 and_intros
 try any_goals first | omega | (simp [maxLen] <;> omega)
 obtain ⟨v3, h1, hF⟩ := bnd1_elim hF
 refine AC (w_internal_bytealg_CompareString k _ _ _ h1) (.cons (.same (by simp)) (.cons (.same (by simp)) .nil)) ?_
 try simp
 and_intros <;> first | exact g _ (by kernel_rfl) | refine r _ _ _ ?_ | omega | (simp [maxLen] <;> omega)
 refine WK [(4, Iz v3)] [] 0 (by simp) (by simp) ?_
 simp only [Option.some.injEq] at hF
 subst hF
 refine AW.ret (hQ _ _ _ ?_ (matchO_0 ?_)).1
 ·simp [Try.f62]
 ·simp
theorem w_cmp_Or_int (k : Nat) (v0 : (List Int)) (v1 : Int) (hF : cmp_Or_int k v0 = some v1) :
  FCall Try.prog 44 [AV.lst false false (List.map (AV.int .i64) v0)] [] (AV.int .i64 v1) [] := by
 unfold cmp_Or_int at hF
 refine EN Try.func44 ?_
 intro c0 w0 Q h0 hQ
 refine WK [(0, Lz v0)] [] 0 (by simp) (by simp) ?_
 refine SQ [] [none] fun _ _ g r => ?_
 try simp
 and_intros <;> first | exact g _ (by kernel_rfl) | refine r _ _ _ ?_ | omega | (simp [maxLen] <;> omega)
 refine WK [(0, Lz v0)] [] 0 (by simp) (by simp) ?_
 refine SQ [] [none] fun _ _ g r => ?_
 try simp
 and_intros <;> first | exact g _ (by kernel_rfl) | refine r _ _ _ ?_ | omega | (simp [maxLen] <;> omega)
 refine WK [(0, Lz v0), (3, Iz 0)] [] 0 (by simp) (by simp) ?_
 refine AW.seq fun K133 hK133 => ?_
 refine SQ [] [none, none, none] fun _ _ g r => ?_
 try simp
 and_intros <;> first | exact g _ (by kernel_rfl) | refine r _ _ _ ?_ | omega | (simp [maxLen] <;> omega)
 refine WK [(3, Iz 0), (6, Lz v0), (7, Iz (v0.length : Int)), (8, Iz 0)] [] 0 (by simp) (by simp) ?_
 refine AW.block ?_
 refine AW.loopF (α := Int) (fun n v2 => cmp_Or_int.L1 k v0 n v2 = some v1) (fun v2 => [(3, Iz 0), (6, Lz v0), (7, Iz (v0.length : Int)), (8, Iz v2)]) (fun v2 => []) 0 k (0) hF (by simp) (by simp) (by simp) ?_
 rintro (_|n1) v2 hF K165 hK165
 ·try dsimp only at hF
  rw [cmp_Or_int.L1] at hF; cases hF
 try dsimp only at hF
 rw [cmp_Or_int.L1] at hF
 refine SQ [] [none] fun _ _ g r => ?_
 try simp
 and_intros <;> first | exact g _ (by kernel_rfl) | refine r _ _ _ ?_ | omega | (simp [maxLen] <;> omega)
 refine WK [(3, Iz 0), (6, Lz v0), (7, Iz (v0.length : Int)), (8, Iz v2), (9, AV.bool (decide (v2 < (v0.length : Int))))] [] 0 (by simp) (by simp) ?_
 refine AW.seq fun K167 hK167 => ?_
 by_cases h1 : v2 < (v0.length : Int)
 ·replace hF := ite_t h1 hF
  have h1_ := h1
  try simp at h1_
  refine CT (by simp [h1, h1_] <;> omega) ?_
  refine AW.skip ?_
  refine hK167 _ _ _ ?_
  refine AW.seq fun K171 hK171 => ?_
  refine AW.block ?_
  refine SQ [] [none, none, none] fun _ _ g r => ?_
  obtain ⟨v3, h2, h3, h4, hF⟩ := idx_elim hF
  have h4_ := get_of h4
  try simp at h4_
  have h3_ := h3
  try simp at h3_
  have F1 := And.intro h1 (And.intro h1_ (And.intro h2 (And.intro h3 (And.intro h4 (And.intro h4_ h3_)))))
  try simp [F1]
  and_intros <;> first | exact g _ (by kernel_rfl) | refine r _ _ _ ?_ | omega | (simp [maxLen, F1] <;> omega)
  refine WK [(3, Iz 0), (5, Iz v3), (6, Lz v0), (7, Iz (v0.length : Int)), (8, Iz v2)] [] 0 (by simp [F1]) (by simp [F1]) ?_
  refine SQ [] [none, none, none] fun _ _ g r => ?_
  try simp [F1]
  and_intros <;> first | exact g _ (by kernel_rfl) | refine r _ _ _ ?_ | omega | (simp [maxLen, F1] <;> omega)
  refine WK [(3, Iz 0), (5, Iz v3), (6, Lz v0), (7, Iz (v0.length : Int)), (8, Iz v2), (14, AV.bool (v3 != 0))] [] 0 (by simp [F1]) (by simp [F1]) ?_
  by_cases h5 : v3 ≠ 0
  ·replace hF := ite_t h5 hF
   have h5_ := eqb_f h5
   have h5__ := neb_t h5
   have F2 := And.intro F1 (And.intro h5 (And.intro h5_ h5__))
   refine CT (by simp [F2] <;> omega) ?_
   refine SQ [] [none, none] fun _ _ g r => ?_
   try simp [F2]
   and_intros <;> first | exact g _ (by kernel_rfl) | refine r _ _ _ ?_ | omega | (simp [maxLen, F2] <;> omega)
   refine WK [(2, Iz v3)] [] 0 (by simp [F2]) (by simp [F2]) ?_
   simp only [Option.some.injEq] at hF
   subst hF
   refine AW.ret (hQ _ _ _ ?_ (matchO_0 ?_)).1
   ·simp [Try.f44, F2]
   ·simp [F2]
  ·replace hF := ite_f h5 hF
   have h5q : v3 = 0 := Classical.not_not.1 h5
   have h5_ := eqb_t h5q
   have h5__ := neb_f h5q
   have F3 := And.intro F1 (And.intro h5_ (And.intro h5__ h5q))
   refine CF (by simp [F3] <;> omega) ?_
   refine AW.skip ?_
   refine hK171 _ _ _ ?_
   refine RG [] [none, none] fun _ _ g r => ?_
   try simp [F3]
   and_intros <;> first | exact g _ (by kernel_rfl) | refine r _ _ _ ?_ | omega | (simp [maxLen, F3] <;> omega)
   refine hK165 _ _ _ ?_
   exact NX (k' := n1) (IntKind.wrap .i64 (v2 + 1)) hF (by simp [F3]) (by simp [F3])
 ·replace hF := ite_f h1 hF
  have h1_ := h1
  try simp at h1_
  refine CF (by simp [h1, h1_] <;> omega) ?_
  refine AW.exit ?_
  try simp
  refine hK133 _ _ _ ?_
  refine SQ [] [none, none] fun _ _ g r => ?_
  try simp [h1, h1_]
  and_intros <;> first | exact g _ (by kernel_rfl) | refine r _ _ _ ?_ | omega | (simp [h1, h1_, maxLen] <;> omega)
  refine WK [(2, Iz 0)] [] 0 (by simp [h1, h1_]) (by simp [h1, h1_]) ?_
  simp only [Option.some.injEq] at hF
  subst hF
  refine AW.ret (hQ _ _ _ ?_ (matchO_0 ?_)).1
  ·simp [Try.f44, h1, h1_]
  ·simp [h1, h1_]
theorem w_cases_pin (k : Nat) (v0 : Int) (v1 : Int) (v2 : ByteArray) (v3 : Int) (v4 : Int) (v5 : ByteArray) (v6 : Int) (hF : cases_pin k v0 v1 v2 v3 v4 v5 = some v6) :
  FCall Try.prog 48 [AV.agg [AV.int .i64 v0, AV.int .i64 v1, AV.str v2], AV.agg [AV.int .i64 v3, AV.int .i64 v4, AV.str v5]] [] (AV.int .i64 v6) [] := by
 unfold cases_pin at hF
 refine EN Try.func48 ?_
 intro c0 w0 Q h0 hQ
 refine WK [(0, AV.agg [Iz v0, Iz v1, AV.str v2]), (1, AV.agg [Iz v3, Iz v4, AV.str v5])] [] 0 (by simp) (by simp) ?_
 refine SQ [] [none, none, none] fun _ _ g r => ?_
 try simp
 and_intros <;> first | exact g _ (by kernel_rfl) | refine r _ _ _ ?_ | omega | (simp [maxLen] <;> omega)
 refine WK [(2, AV.ptr 0 0), (3, AV.ptr 1 0)] [(0, .cells [Iz v0, Iz v1, AV.str v2]), (1, .cells [Iz v3, Iz v4, AV.str v5])] 2 (by simp) (by simp) ?_
 refine SQ [] [none, none, none, none, none, none, none, none, none, none, none, none, none, none, none, none, none, none] fun _ _ g r => ?_
 try simp
 and_intros
 try any_goals first | omega | (simp [maxLen] <;> omega)
 obtain ⟨v7, h1, hF⟩ := bnd1_elim hF
 refine AC (w_cmp_Compare_int k _ _ _ h1) (.cons (.same (by simp)) (.cons (.same (by simp)) .nil)) ?_
 try simp
 and_intros
 try any_goals first | omega | (simp [maxLen] <;> omega)
 obtain ⟨v8, h2, hF⟩ := bnd1_elim hF
 refine AC (w_cmp_Compare_int k _ _ _ h2) (.cons (.same (by simp)) (.cons (.same (by simp)) .nil)) ?_
 try simp
 and_intros
 try any_goals first | omega | (simp [maxLen] <;> omega)
 obtain ⟨v9, h3, hF⟩ := bnd1_elim hF
 refine AC (w_strings_Compare k _ _ _ h3) (.cons (.same (by simp)) (.cons (.same (by simp)) .nil)) ?_
 try simp
 and_intros
 try any_goals first | omega | (simp [maxLen] <;> omega)
 obtain ⟨v10, h4, hF⟩ := bnd1_elim hF
 refine AC (w_cmp_Or_int k _ _ h4) (.cons (Coe.fl (by simp)) .nil) ?_
 try simp
 and_intros <;> first | exact g _ (by kernel_rfl) | refine r _ _ _ ?_ | omega | (simp [maxLen] <;> omega)
 refine WK [(4, Iz v10)] [] 2 (by simp) (by simp) ?_
 simp only [Option.some.injEq] at hF
 subst hF
 refine AW.ret (hQ _ _ _ ?_ (matchO_0 ?_)).1
 ·simp [Try.f48]
 ·simp
theorem w_cases_order_api_Pin_cases_pin (k : Nat) (v0 : (List api_Pin)) (v1 : (List api_Pin)) (v2 : Int) (hF : cases_order_api_Pin_cases_pin k v0 v1 = some v2) :
  FCall Try.prog 47 [AV.lst false false (List.map api_Pin.av v0), AV.lst false false (List.map api_Pin.av v1), AV.fn 48 []] [] (AV.int .i64 v2) [] := by
 unfold cases_order_api_Pin_cases_pin at hF
 refine EN Try.func47 ?_
 intro c0 w0 Q h0 hQ
 refine WK [(0, AV.lst false false (List.map api_Pin.av v0)), (1, AV.lst false false (List.map api_Pin.av v1)), (2, AV.fn 48 [])] [] 0 (by simp) (by simp) ?_
 refine SQ [] [none] fun _ _ g r => ?_
 try simp
 and_intros <;> first | exact g _ (by kernel_rfl) | refine r _ _ _ ?_ | omega | (simp [maxLen] <;> omega)
 refine WK [(0, AV.lst false false (List.map api_Pin.av v0)), (1, AV.lst false false (List.map api_Pin.av v1)), (2, AV.fn 48 [])] [] 0 (by simp) (by simp) ?_
 refine AW.seq fun K155 hK155 => ?_
 refine SQ [] [none, none, none, none, none, none] fun _ _ g r => ?_
 obtain ⟨v3, h1, hF⟩ := let1_elim hF
 have h1_ := h1
 try simp at h1_
 try simp [h1, h1_]
 and_intros <;> first | exact g _ (by kernel_rfl) | refine r _ _ _ ?_ | omega | (simp [h1, h1_, maxLen] <;> omega)
 refine WK [(0, AV.lst false false (List.map api_Pin.av v0)), (1, AV.lst false false (List.map api_Pin.av v1)), (2, AV.fn 48 []), (13, Iz v3), (14, Iz 0)] [] 0 (by simp [h1, h1_]) (by simp [h1, h1_]) ?_
 refine AW.block ?_
 refine AW.loopF (α := Int) (fun n v4 => cases_order_api_Pin_cases_pin.L1 k v0 v1 v3 n v4 = some v2) (fun v4 => [(0, AV.lst false false (List.map api_Pin.av v0)), (1, AV.lst false false (List.map api_Pin.av v1)), (2, AV.fn 48 []), (13, Iz v3), (14, Iz v4)]) (fun v4 => []) 0 k (0) hF (by simp [h1, h1_]) (by simp [h1, h1_]) (by simp) ?_
 rintro (_|n1) v4 hF K193 hK193
 ·try dsimp only at hF
  rw [cases_order_api_Pin_cases_pin.L1] at hF; cases hF
 try dsimp only at hF
 rw [cases_order_api_Pin_cases_pin.L1] at hF
 refine SQ [] [none] fun _ _ g r => ?_
 try simp [h1, h1_]
 and_intros <;> first | exact g _ (by kernel_rfl) | refine r _ _ _ ?_ | omega | (simp [h1, h1_, maxLen] <;> omega)
 refine WK [(0, AV.lst false false (List.map api_Pin.av v0)), (1, AV.lst false false (List.map api_Pin.av v1)), (2, AV.fn 48 []), (13, Iz v3), (14, Iz v4), (15, AV.bool (decide (v4 < v3)))] [] 0 (by simp [h1, h1_]) (by simp [h1, h1_]) ?_
 refine AW.seq fun K195 hK195 => ?_
 by_cases h2 : v4 < v3
 ·replace hF := ite_t h2 hF
  have h2_ := h2
  try simp at h2_
  have F1 := And.intro h1 (And.intro h1_ (And.intro h2 h2_))
  refine CT (by simp [F1] <;> omega) ?_
  refine AW.skip ?_
  refine hK195 _ _ _ ?_
  refine AW.seq fun K200 hK200 => ?_
  refine AW.block ?_
  refine SQ [] [none, none] fun _ _ g r => ?_
  try simp [F1]
  and_intros <;> first | exact g _ (by kernel_rfl) | refine r _ _ _ ?_ | omega | (simp [maxLen, F1] <;> omega)
  refine WK [(0, AV.lst false false (List.map api_Pin.av v0)), (1, AV.lst false false (List.map api_Pin.av v1)), (2, AV.fn 48 []), (7, Iz v4), (13, Iz v3), (14, Iz v4)] [] 0 (by simp [F1]) (by simp [F1]) ?_
  refine SQ [] [none, none, none, none, none, none, none, none, none, none, none] fun _ _ g r => ?_
  obtain ⟨v5, h3, h4, h5, hF⟩ := idx_elim hF
  have h5_ := get_of h5
  try simp at h5_
  have h4_ := h4
  try simp at h4_
  obtain ⟨v6, h6, h7, h8, hF⟩ := idx_elim hF
  have h8_ := get_of h8
  try simp at h8_
  have h7_ := h7
  try simp at h7_
  have F2 := And.intro F1 (And.intro h3 (And.intro h4 (And.intro h5 (And.intro h5_ (And.intro h4_ (And.intro h6 (And.intro h7 (And.intro h8 (And.intro h8_ h7_)))))))))
  try simp [F2]
  and_intros
  try any_goals first | omega | (simp [maxLen, F2] <;> omega)
  obtain ⟨v7, h9, hF⟩ := bnd1_elim hF
  refine AC (w_cases_pin k _ _ _ _ _ _ _ h9) (.cons (.same (by simp [F2])) (.cons (.same (by simp [F2])) .nil)) ?_
  try simp [F2]
  and_intros <;> first | exact g _ (by kernel_rfl) | refine r _ _ _ ?_ | omega | (simp [maxLen, F2] <;> omega)
  refine WK [(0, AV.lst false false (List.map api_Pin.av v0)), (1, AV.lst false false (List.map api_Pin.av v1)), (2, AV.fn 48 []), (8, Iz v7), (13, Iz v3), (14, Iz v4)] [] 0 (by simp [F2]) (by simp [F2]) ?_
  refine SQ [] [none, none] fun _ _ g r => ?_
  try simp [F2]
  and_intros <;> first | exact g _ (by kernel_rfl) | refine r _ _ _ ?_ | omega | (simp [maxLen, F2] <;> omega)
  refine WK [(0, AV.lst false false (List.map api_Pin.av v0)), (1, AV.lst false false (List.map api_Pin.av v1)), (2, AV.fn 48 []), (8, Iz v7), (13, Iz v3), (14, Iz v4), (28, AV.bool (v7 != 0))] [] 0 (by simp [F2]) (by simp [F2]) ?_
  by_cases h10 : v7 ≠ 0
  ·replace hF := ite_t h10 hF
   have h10_ := eqb_f h10
   have h10__ := neb_t h10
   have F3 := And.intro F2 (And.intro h10 (And.intro h10_ h10__))
   refine CT (by simp [F3] <;> omega) ?_
   refine SQ [] [none, none] fun _ _ g r => ?_
   try simp [F3]
   and_intros <;> first | exact g _ (by kernel_rfl) | refine r _ _ _ ?_ | omega | (simp [maxLen, F3] <;> omega)
   refine WK [(6, Iz v7)] [] 0 (by simp [F3]) (by simp [F3]) ?_
   simp only [Option.some.injEq] at hF
   subst hF
   refine AW.ret (hQ _ _ _ ?_ (matchO_0 ?_)).1
   ·simp [Try.f47, F3]
   ·simp [F3]
  ·replace hF := ite_f h10 hF
   have h10q : v7 = 0 := Classical.not_not.1 h10
   have h10_ := eqb_t h10q
   have h10__ := neb_f h10q
   have F4 := And.intro F2 (And.intro h10_ (And.intro h10__ h10q))
   refine CF (by simp [F4] <;> omega) ?_
   refine AW.skip ?_
   refine hK200 _ _ _ ?_
   refine RG [] [none, none] fun _ _ g r => ?_
   try simp [F4]
   and_intros <;> first | exact g _ (by kernel_rfl) | refine r _ _ _ ?_ | omega | (simp [maxLen, F4] <;> omega)
   refine hK193 _ _ _ ?_
   exact NX (k' := n1) (IntKind.wrap .i64 (v4 + 1)) hF (by simp [F4]) (by simp [F4])
 ·replace hF := ite_f h2 hF
  have h2_ := h2
  try simp at h2_
  have F5 := And.intro h1 (And.intro h1_ (And.intro h2 h2_))
  refine CF (by simp [F5] <;> omega) ?_
  refine AW.exit ?_
  try simp
  refine hK155 _ _ _ ?_
  refine SQ [] [none, none, none, none, none, none] fun _ _ g r => ?_
  try simp [F5]
  and_intros
  try any_goals first | omega | (simp [maxLen, F5] <;> omega)
  obtain ⟨v8, h11, hF⟩ := bnd1_elim hF
  refine AC (w_cmp_Compare_int k _ _ _ h11) (.cons (.same (by simp [F5])) (.cons (.same (by simp [F5])) .nil)) ?_
  try simp [F5]
  and_intros <;> first | exact g _ (by kernel_rfl) | refine r _ _ _ ?_ | omega | (simp [maxLen, F5] <;> omega)
  refine WK [(6, Iz v8)] [] 0 (by simp [F5]) (by simp [F5]) ?_
  simp only [Option.some.injEq] at hF
  subst hF
  refine AW.ret (hQ _ _ _ ?_ (matchO_0 ?_)).1
  ·simp [Try.f47, F5]
  ·simp [F5]
theorem w_cases_Order (k : Nat) (v0 : (List Int)) (v1 : (List api_Pin)) (v2 : (List Int)) (v3 : (List api_Pin)) (v4 : Int) (hF : cases_Order k v0 v1 v2 v3 = some v4) :
  FCall Try.prog 30 [AV.agg [AV.lst false false (List.map (AV.int .i64) v0), AV.lst false false (List.map api_Pin.av v1)], AV.agg [AV.lst false false (List.map (AV.int .i64) v2), AV.lst false false (List.map api_Pin.av v3)]] [] (AV.int .i64 v4) [] := by
 unfold cases_Order at hF
 refine EN Try.func30 ?_
 intro c0 w0 Q h0 hQ
 refine WK [(0, AV.agg [Lz v0, AV.lst false false (List.map api_Pin.av v1)]), (1, AV.agg [Lz v2, AV.lst false false (List.map api_Pin.av v3)])] [] 0 (by simp) (by simp) ?_
 refine SQ [] [none, none, none] fun _ _ g r => ?_
 try simp
 and_intros <;> first | exact g _ (by kernel_rfl) | refine r _ _ _ ?_ | omega | (simp [maxLen] <;> omega)
 refine WK [(2, AV.ptr 0 0), (3, AV.ptr 1 0)] [(0, .cells [Lz v0, AV.lst false false (List.map api_Pin.av v1)]), (1, .cells [Lz v2, AV.lst false false (List.map api_Pin.av v3)])] 2 (by simp) (by simp) ?_
 refine SQ [] [none, none, none, none, none, none, none, none, none, none, none, none, none] fun _ _ g r => ?_
 try simp
 and_intros
 try any_goals first | omega | (simp [maxLen] <;> omega)
 obtain ⟨v5, h1, hF⟩ := bnd1_elim hF
 refine AC (w_cases_order_int_Compare_int k _ _ _ h1) (.cons (.same (by simp)) (.cons (.same (by simp)) (.cons (.same (by simp)) .nil))) ?_
 try simp
 and_intros
 try any_goals first | omega | (simp [maxLen] <;> omega)
 obtain ⟨v6, h2, hF⟩ := bnd1_elim hF
 refine AC (w_cases_order_api_Pin_cases_pin k _ _ _ h2) (.cons (.same (by simp)) (.cons (.same (by simp)) (.cons (.same (by simp)) .nil))) ?_
 try simp
 and_intros
 try any_goals first | omega | (simp [maxLen] <;> omega)
 obtain ⟨v7, h3, hF⟩ := bnd1_elim hF
 refine AC (w_cmp_Or_int k _ _ h3) (.cons (Coe.fl (by simp)) .nil) ?_
 try simp
 and_intros <;> first | exact g _ (by kernel_rfl) | refine r _ _ _ ?_ | omega | (simp [maxLen] <;> omega)
 refine WK [(4, Iz v7)] [] 2 (by simp) (by simp) ?_
 simp only [Option.some.injEq] at hF
 subst hF
 refine AW.ret (hQ _ _ _ ?_ (matchO_0 ?_)).1
 ·simp [Try.f30]
 ·simp
theorem w_law23_CasesForged (k : Nat) (v0 : (List Int)) (v1 : Int) (v2 : Bool) (hF : law23_CasesForged k v0 v1 = some v2) :
  FCall Try.prog 8 [AV.lst false false (List.map (AV.int .i64) v0), AV.int .u8 v1] [] (AV.bool v2) [] := by
 unfold law23_CasesForged at hF
 refine EN Try.func8 ?_
 intro c0 w0 Q h0 hQ
 refine WK [(0, Lz v0), (1, AV.int .u8 v1)] [] 0 (by simp) (by simp) ?_
 refine SQ [] [none] fun _ _ g r => ?_
 try simp
 and_intros <;> first | exact g _ (by kernel_rfl) | refine r _ _ _ ?_ | omega | (simp [maxLen] <;> omega)
 refine WK [(0, Lz v0), (1, AV.int .u8 v1)] [] 0 (by simp) (by simp) ?_
 refine AW.seq fun K17 hK17 => ?_
 refine SQ [] [none, none, none] fun _ _ g r => ?_
 try simp
 and_intros
 try any_goals first | omega | (simp [maxLen] <;> omega)
 obtain ⟨v3, h1, hF⟩ := bnd1_elim hF
 refine AC (w_mill_Light k _ _ h1) (.cons (.same (by simp)) .nil) ?_
 try simp
 and_intros <;> first | exact g _ (by kernel_rfl) | refine r _ _ _ ?_ | omega | (simp [maxLen] <;> omega)
 refine WK [(0, Lz v0), (1, AV.int .u8 v1), (14, AV.bool (!v3))] [] 0 (by simp) (by simp) ?_
 by_cases h2 : (!v3) = true
 ·replace hF := ite_t h2 hF
  have h2_ := h2
  try simp at h2_
  refine CT (by simp [h2, h2_] <;> omega) ?_
  refine SQ [] [none, none] fun _ _ g r => ?_
  try simp [h2, h2_]
  and_intros
  try any_goals first | omega | (simp [h2, h2_, maxLen] <;> omega)
  obtain ⟨v4, h3, hF⟩ := bnd1_elim hF
  refine AC (w_law23_awake k _ h3) .nil ?_
  try simp [h2, h2_]
  and_intros <;> first | exact g _ (by kernel_rfl) | refine r _ _ _ ?_ | omega | (simp [h2, h2_, maxLen] <;> omega)
  refine WK [(4, AV.bool v4)] [] 0 (by simp [h2, h2_]) (by simp [h2, h2_]) ?_
  simp only [Option.some.injEq] at hF
  subst hF
  refine AW.ret (hQ _ _ _ ?_ (matchO_0 ?_)).1
  ·simp [Try.f8, h2, h2_]
  ·simp [h2, h2_]
 ·replace hF := ite_f h2 hF
  have h2_ := h2
  try simp at h2_
  refine CF (by simp [h2, h2_] <;> omega) ?_
  refine AW.skip ?_
  refine hK17 _ _ _ ?_
  refine SQ [] [none, none, none] fun _ _ g r => ?_
  try simp [h2, h2_]
  and_intros
  try any_goals first | omega | (simp [h2, h2_, maxLen] <;> omega)
  obtain ⟨v5, v6, h4, hF⟩ := bnd2_elim hF
  refine AC (w_mill_Roll k _ _ _ h4) (.cons (.same (by simp [h2, h2_])) .nil) ?_
  try simp [h2, h2_]
  and_intros <;> first | exact g _ (by kernel_rfl) | refine r _ _ _ ?_ | omega | (simp [h2, h2_, maxLen] <;> omega)
  refine WK [(1, AV.int .u8 v1), (5, AV.ptr 0 0)] [(0, .cells [Lz v5, Iz v6])] 1 (by simp [h2, h2_]) (by simp [h2, h2_]) ?_
  refine SQ [] [none, none, none, none] fun _ _ g r => ?_
  try simp [h2, h2_]
  and_intros
  try any_goals first | omega | (simp [h2, h2_, maxLen] <;> omega)
  obtain ⟨v7, v8, v9, v10, v11, h5, hF⟩ := bnd5_elim hF
  refine aCall_l (w_mill_Case k _ _ _ _ _ _ _ _ h5) (by simp) [0] [] [0] rfl (.cons (.same (by simp [h2, h2_])) (.cons (.same (by simp [h2, h2_])) .nil)) (by simp [h2, h2_]) (by decide) (by simp) (by simp) (.inl rfl) (by simp) (by simp) ?_
  try simp [h2, h2_]
  and_intros <;> first | exact g _ (by kernel_rfl) | refine r _ _ _ ?_ | omega | (simp [h2, h2_, maxLen] <;> omega)
  refine WK [(1, AV.int .u8 v1), (5, AV.ptr 0 0), (6, AV.ptr 1 0)] [(0, .cells [Lz v5, Iz v11]), (1, .cells [Iz v7, Iz v8, Iz v9, Iz v10])] 2 (by simp [h2, h2_]) (by simp [h2, h2_]) ?_
  refine SQ [] [none, none, none, none, none, none, none, none, none] fun _ _ g r => ?_
  try simp [h2, h2_]
  and_intros
  try any_goals first | omega | (simp [h2, h2_, maxLen] <;> omega)
  obtain ⟨v12, v13, h6, hF⟩ := bnd2_elim hF
  refine aCall_l (w_made_Dice_Next k _ _ _ _ _ h6) (by simp) [0] [] [0] rfl (.cons (.same (by simp [h2, h2_])) (.cons (.same (by simp [h2, h2_])) .nil)) (by simp [h2, h2_]) (by decide) (by simp) (by simp) (.inl rfl) (by simp) (by simp) ?_
  try simp [h2, h2_]
  and_intros
  try any_goals first | omega | (simp [h2, h2_, maxLen] <;> omega)
  obtain ⟨v14, v15, v16, h7, hF⟩ := bnd3_elim hF
  refine aCall_l (w_mill_Content k _ _ _ _ _ _ _ _ _ h7) (by simp) [0] [] [0] rfl (.cons (.same (by simp [h2, h2_])) (.cons (.same (by simp [h2, h2_])) .nil)) (by simp [h2, h2_]) (by decide) (by simp) (by simp) (.inl rfl) (by simp) (by simp) ?_
  try simp [h2, h2_]
  and_intros
  try any_goals first | omega | (simp [h2, h2_, maxLen] <;> omega)
  obtain ⟨v17, h8, hF⟩ := bnd1_elim hF
  refine AC (w_mill_Vote k _ _ _ _ _ _ _ _ _ h8) (.cons (.same (by simp [h2, h2_])) (.cons (.same (by simp [h2, h2_])) (.cons (.same (by simp [h2, h2_])) (.cons (.same (by simp [h2, h2_])) .nil)))) ?_
  try simp [h2, h2_]
  and_intros <;> first | exact g _ (by kernel_rfl) | refine r _ _ _ ?_ | omega | (simp [h2, h2_, maxLen] <;> omega)
  refine WK [(1, AV.int .u8 v1), (7, AV.ptr 2 0)] [(2, .cells [Iz v17.Author, Iz v17.Number, AV.str v17.Prev, Iz v17.Time, Iz v17.Kind, Iz v17.A, Iz v17.B, Iz v17.C, AV.lst false false (List.map (AV.int .i64) v17.Lst), AV.lst false false (List.map api_Pin.av v17.Pins), AV.str v17.Body, Iz v17.Seal_Key, AV.str v17.Seal_Digest])] 3 (by simp [h2, h2_]) (by simp [h2, h2_]) ?_
  refine SQ [] [none, none, none, none, none, none, none, none] fun _ _ g r => ?_
  try simp [h2, h2_]
  and_intros
  try any_goals first | omega | (simp [h2, h2_, maxLen] <;> omega)
  obtain ⟨v18, v19, v20, v21, v22, v23, v24, v25, h9, hF⟩ := bnd8_elim hF
  refine AC (w_cases_Of k _ _ _ _ _ _ _ _ _ _ _ _ _ _ _ _ _ _ _ _ _ h9) (.cons (.same (by simp [h2, h2_])) .nil) ?_
  try simp [h2, h2_]
  and_intros <;> first | exact g _ (by kernel_rfl) | refine r _ _ _ ?_ | omega | (simp [h2, h2_, maxLen] <;> omega)
  refine WK [(1, AV.int .u8 v1), (7, AV.ptr 2 0), (8, AV.ptr 3 0), (9, Iz v25)] [(2, .cells [Iz v17.Author, Iz v17.Number, AV.str v17.Prev, Iz v17.Time, Iz v17.Kind, Iz v17.A, Iz v17.B, Iz v17.C, AV.lst false false (List.map (AV.int .i64) v17.Lst), AV.lst false false (List.map api_Pin.av v17.Pins), AV.str v17.Body, Iz v17.Seal_Key, AV.str v17.Seal_Digest]), (3, .cells [Iz v18, Iz v19, Iz v20, Iz v21, Iz v22, Lz v23, AV.lst false false (List.map api_Pin.av v24)])] 4 (by simp [h2, h2_]) (by simp [h2, h2_]) ?_
  refine SQ [] [none, none, none, none, none, none, none] fun _ _ g r => ?_
  try simp [h2, h2_]
  and_intros <;> first | exact g _ (by kernel_rfl) | refine r _ _ _ ?_ | omega | (simp [h2, h2_, maxLen] <;> omega)
  refine WK [(7, AV.ptr 2 0), (8, AV.ptr 3 0), (9, Iz v25)] [(2, .cells [Iz v17.Author, Iz v17.Number, AV.str v17.Prev, Iz v17.Time, Iz v17.Kind, Iz v17.A, Iz v17.B, Iz v17.C, AV.lst false false (List.map (AV.int .i64) v17.Lst), AV.lst false false (List.map api_Pin.av v17.Pins), AV.str v17.Body, Iz (IntKind.wrap .i64 (8 + Int.tmod (IntKind.wrap .i64 v1) 8)), AV.str v17.Seal_Digest]), (3, .cells [Iz v18, Iz v19, Iz v20, Iz v21, Iz v22, Lz v23, AV.lst false false (List.map api_Pin.av v24)])] 4 (by simp [h2, h2_]) (by simp [h2, h2_]) ?_
  refine SQ [] [none, none, none, none, none, none, none, none] fun _ _ g r => ?_
  try simp [h2, h2_]
  and_intros
  try any_goals first | omega | (simp [h2, h2_, maxLen] <;> omega)
  obtain ⟨v26, v27, v28, v29, v30, v31, v32, v33, h10, hF⟩ := bnd8_elim hF
  refine AC (w_cases_Of k _ _ _ _ _ _ _ _ _ _ _ _ _ _ _ _ _ _ _ _ _ h10) (.cons (.same (by simp [h2, h2_])) .nil) ?_
  try simp [h2, h2_]
  and_intros <;> first | exact g _ (by kernel_rfl) | refine r _ _ _ ?_ | omega | (simp [h2, h2_, maxLen] <;> omega)
  refine WK [(7, AV.ptr 2 0), (8, AV.ptr 3 0), (9, Iz v25), (10, AV.ptr 4 0), (11, Iz v33)] [(2, .cells [Iz v17.Author, Iz v17.Number, AV.str v17.Prev, Iz v17.Time, Iz v17.Kind, Iz v17.A, Iz v17.B, Iz v17.C, AV.lst false false (List.map (AV.int .i64) v17.Lst), AV.lst false false (List.map api_Pin.av v17.Pins), AV.str v17.Body, Iz (IntKind.wrap .i64 (8 + Int.tmod (IntKind.wrap .i64 v1) 8)), AV.str v17.Seal_Digest]), (3, .cells [Iz v18, Iz v19, Iz v20, Iz v21, Iz v22, Lz v23, AV.lst false false (List.map api_Pin.av v24)]), (4, .cells [Iz v26, Iz v27, Iz v28, Iz v29, Iz v30, Lz v31, AV.lst false false (List.map api_Pin.av v32)])] 5 (by simp [h2, h2_]) (by simp [h2, h2_]) ?_
  refine SQ [] [none, none, none, some (45, true), some (45, true), none, none, some (49, true), some (49, true), some (49, true), none, none, some (54, true), some (54, true), some (54, true), some (54, true), some (54, true), none, none, some (61, true), some (61, true), some (61, true), some (61, true), some (61, true), none, none, some (68, true), some (68, true), some (68, true), some (68, true), some (68, true), some (68, true), none, none, some (76, true), none, none] fun _ _ g r => ?_
  by_cases h11 : v25 = 0
  ·replace hF := ite_t h11 hF
   have h11q : v25 = 0 := h11
   have h11_ := eqb_t h11q
   have h11__ := neb_f h11q
   by_cases h12 : v33 = 0
   ·replace hF := ite_t h12 hF
    have h12q : v33 = 0 := h12
    have h12_ := eqb_t h12q
    have h12__ := neb_f h12q
    have F1 := And.intro h2 (And.intro h2_ (And.intro h11_ (And.intro h11__ (And.intro h11q (And.intro h12_ (And.intro h12__ h12q))))))
    try simp [F1]
    and_intros
    try any_goals first | omega | (simp [maxLen, F1] <;> omega)
    obtain ⟨v34, h13, hF⟩ := bnd1_elim hF
    refine AC (w_ref03_Sealed k _ _ _ _ _ _ _ _ _ _ _ _ _ _ h13) (.cons (.same (by simp [F1])) .nil) ?_
    by_cases h14 : (!v34) = true
    ·replace hF := ite_t h14 hF
     have h14_ := h14
     try simp at h14_
     by_cases h15 : v18 = v26
     ·replace hF := ite_t h15 hF
      have h15q : v18 = v26 := h15
      have h15_ := eqb_t h15q
      have h15__ := neb_f h15q
      obtain ⟨v35, h16, hF⟩ := let1_elim hF
      have h16_ := h16
      try simp at h16_
      by_cases h17 : v35 = true
      ·replace hF := ite_t h17 hF
       have h17_ := h17
       try simp at h17_
       have F2 := And.intro F1 (And.intro h14 (And.intro h14_ (And.intro h15_ (And.intro h15__ (And.intro h16 (And.intro h16_ (And.intro h17 h17_)))))))
       try simp [F2]
       and_intros
       try any_goals first | omega | (simp [maxLen, F2] <;> omega)
       obtain ⟨v36, h18, hF⟩ := bnd1_elim hF
       refine AC (w_cases_Order k _ _ _ _ _ h18) (.cons (.same (by simp [F2])) (.cons (.same (by simp [F2])) .nil)) ?_
       by_cases h19 : v36 = 0
       ·replace hF := ite_t h19 hF
        have h19q : v36 = 0 := h19
        have h19_ := eqb_t h19q
        have h19__ := neb_f h19q
        have F3 := And.intro F2 (And.intro h19_ (And.intro h19__ h19q))
        try simp [F3]
        and_intros
        try any_goals first | omega | (simp [maxLen, F3] <;> omega)
        obtain ⟨v37, h20, hF⟩ := bnd1_elim hF
        refine AC (w_law23_awake k _ h20) .nil ?_
        try simp [F3]
        and_intros <;> first | exact g _ (by kernel_rfl) | refine r _ _ _ ?_ | omega | (simp [maxLen, F3] <;> omega)
        refine WK [(4, AV.bool v37)] [] 5 (by simp [F3]) (by simp [F3]) ?_
        simp only [Option.some.injEq] at hF
        subst hF
        refine AW.ret (hQ _ _ _ ?_ (matchO_0 ?_)).1
        ·simp [Try.f8, F3]
        ·simp [F3]
       ·replace hF := ite_f h19 hF
        have h19_ := eqb_f h19
        have h19__ := neb_t h19
        have F4 := And.intro F2 (And.intro h19 (And.intro h19_ h19__))
        try simp [F4]
        and_intros <;> first | exact g _ (by kernel_rfl) | refine r _ _ _ ?_ | omega | (simp [maxLen, F4] <;> omega)
        refine WK [(4, AV.bool false)] [] 5 (by simp [F4]) (by simp [F4]) ?_
        simp only [Option.some.injEq] at hF
        subst hF
        refine AW.ret (hQ _ _ _ ?_ (matchO_0 ?_)).1
        ·simp [Try.f8, F4]
        ·simp [F4]
      ·replace hF := ite_f h17 hF
       have h17_ := h17
       try simp at h17_
       have F5 := And.intro F1 (And.intro h14 (And.intro h14_ (And.intro h15_ (And.intro h15__ (And.intro h16 (And.intro h16_ (And.intro h17 h17_)))))))
       try simp [F5]
       and_intros <;> first | exact g _ (by kernel_rfl) | refine r _ _ _ ?_ | omega | (simp [maxLen, F5] <;> omega)
       refine WK [(4, AV.bool false)] [] 5 (by simp [F5]) (by simp [F5]) ?_
       simp only [Option.some.injEq] at hF
       subst hF
       refine AW.ret (hQ _ _ _ ?_ (matchO_0 ?_)).1
       ·simp [Try.f8, F5]
       ·simp [F5]
     ·replace hF := ite_f h15 hF
      have h15_ := eqb_f h15
      have h15__ := neb_t h15
      have F6 := And.intro F1 (And.intro h14 (And.intro h14_ (And.intro h15 (And.intro h15_ h15__))))
      try simp [F6]
      and_intros <;> first | exact g _ (by kernel_rfl) | refine r _ _ _ ?_ | omega | (simp [maxLen, F6] <;> omega)
      refine WK [(4, AV.bool false)] [] 5 (by simp [F6]) (by simp [F6]) ?_
      simp only [Option.some.injEq] at hF
      subst hF
      refine AW.ret (hQ _ _ _ ?_ (matchO_0 ?_)).1
      ·simp [Try.f8, F6]
      ·simp [F6]
    ·replace hF := ite_f h14 hF
     have h14_ := h14
     try simp at h14_
     have F7 := And.intro F1 (And.intro h14 h14_)
     try simp [F7]
     and_intros <;> first | exact g _ (by kernel_rfl) | refine r _ _ _ ?_ | omega | (simp [maxLen, F7] <;> omega)
     refine WK [(4, AV.bool false)] [] 5 (by simp [F7]) (by simp [F7]) ?_
     simp only [Option.some.injEq] at hF
     subst hF
     refine AW.ret (hQ _ _ _ ?_ (matchO_0 ?_)).1
     ·simp [Try.f8, F7]
     ·simp [F7]
   ·replace hF := ite_f h12 hF
    have h12_ := eqb_f h12
    have h12__ := neb_t h12
    have F8 := And.intro h2 (And.intro h2_ (And.intro h11_ (And.intro h11__ (And.intro h11q (And.intro h12 (And.intro h12_ h12__))))))
    try simp [F8]
    and_intros <;> first | exact g _ (by kernel_rfl) | refine r _ _ _ ?_ | omega | (simp [maxLen, F8] <;> omega)
    refine WK [(4, AV.bool false)] [] 5 (by simp [F8]) (by simp [F8]) ?_
    simp only [Option.some.injEq] at hF
    subst hF
    refine AW.ret (hQ _ _ _ ?_ (matchO_0 ?_)).1
    ·simp [Try.f8, F8]
    ·simp [F8]
  ·replace hF := ite_f h11 hF
   have h11_ := eqb_f h11
   have h11__ := neb_t h11
   have F9 := And.intro h2 (And.intro h2_ (And.intro h11 (And.intro h11_ h11__)))
   try simp [F9]
   and_intros <;> first | exact g _ (by kernel_rfl) | refine r _ _ _ ?_ | omega | (simp [maxLen, F9] <;> omega)
   refine WK [(4, AV.bool false)] [] 5 (by simp [F9]) (by simp [F9]) ?_
   simp only [Option.some.injEq] at hF
   subst hF
   refine AW.ret (hQ _ _ _ ?_ (matchO_0 ?_)).1
   ·simp [Try.f8, F9]
   ·simp [F9]
end Go.TF
