/- Walks: the Go text computes the Lean functions (printed by a program of our own). -/
import Derived.Test.YtmiimcogppdepaaHaPu
import Derived.Test.YtmiimcogppdepaaHaAbsT
import Derived.Test.YtmiimcogppdepaaHaWa0
import Derived.Test.YtmiimcogppdepaaHaWa1
set_option linter.unusedVariables false
set_option linter.unusedSimpArgs false
set_option maxRecDepth 100000
set_option maxHeartbeats 4000000
namespace Go.TF
open Go Go.Abs Go.Proofs Go.Proofs.YtmiimcogppdepaaHaT
theorem w_math_bits_Mul (k : Nat) (v0 : Int) (v1 : Int) (v2 : Int) (v3 : Int) (hF : math_bits_Mul k v0 v1 = some (v2, v3)) :
  FCall Try.prog 74 [AV.int .u64 v0, AV.int .u64 v1] [] (AV.tup [AV.int .u64 v2, AV.int .u64 v3]) [] := by
 unfold math_bits_Mul at hF
 refine EN Try.func74 ?_
 intro c0 w0 Q h0 hQ
 refine WK [(0, AV.int .u64 v0), (1, AV.int .u64 v1)] [] 0 (by simp) (by simp) ?_
 refine SQ [] [none, none] fun _ _ g r => ?_
 try simp
 and_intros <;> first | exact g _ (by kernel_rfl) | refine r _ _ _ ?_ | omega | (simp [maxLen] <;> omega)
 refine WK [(0, AV.int .u64 v0), (1, AV.int .u64 v1)] [] 0 (by simp) (by simp) ?_
 refine AW.seq fun K6 hK6 => ?_
 refine AW.condCF ?_
 refine AW.skip ?_
 refine hK6 _ _ _ ?_
 refine SQ [] [none, none, none, none, none, none, none, none] fun _ _ g r => ?_
 try simp
 and_intros
 try any_goals first | omega | (simp [maxLen] <;> omega)
 obtain ⟨v4, v5, h1, hF⟩ := bnd2_elim hF
 refine AC (w_math_bits_Mul64 k _ _ _ _ h1) (.cons (.same (by simp)) (.cons (.same (by simp)) .nil)) ?_
 try simp
 and_intros <;> first | exact g _ (by kernel_rfl) | refine r _ _ _ ?_ | omega | (simp [maxLen] <;> omega)
 refine WK [(8, AV.int .u64 v4), (9, AV.int .u64 v5)] [] 0 (by simp) (by simp) ?_
 refine SQ [] [none, none, none, none] fun _ _ g r => ?_
 try simp
 and_intros <;> first | exact g _ (by kernel_rfl) | refine r _ _ _ ?_ | omega | (simp [maxLen] <;> omega)
 refine WK [(4, AV.int .u64 v4), (5, AV.int .u64 v5)] [] 0 (by simp) (by simp) ?_
 simp only [Option.some.injEq, Prod.mk.injEq] at hF
 obtain ⟨e0, e1⟩ := hF
 subst e0 e1
 refine AW.ret (hQ _ _ _ ?_ (matchO_0 ?_)).1
 ·simp [Try.f74]
 ·simp
theorem w_slices_Repeat_int_int (k : Nat) (v0 : (List Int)) (v1 : Int) (v2 : (List Int)) (hF : slices_Repeat_int_int k v0 v1 = some v2) :
  FCall Try.prog 60 [AV.lst false false (List.map (AV.int .i64) v0), AV.int .i64 v1] [] (AV.slc 0 0 1 v2.length false) [some (.cells (List.map (AV.int .i64) v2))] := by
 unfold slices_Repeat_int_int at hF
 refine EN Try.func60 ?_
 intro c0 w0 Q h0 hQ
 refine WK [(0, Lz v0), (1, Iz v1)] [] 0 (by simp [-List.reduceReplicate, sOf_set, ofI_set, allU8_set]) (by simp [-List.reduceReplicate, sOf_set, ofI_set, allU8_set]) ?_
 refine SQ [] [none] fun _ _ g r => ?_
 try simp [-List.reduceReplicate, sOf_set, ofI_set, allU8_set]
 and_intros <;> first | exact g _ (by kernel_rfl) | refine r _ _ _ ?_ | omega | (simp [-List.reduceReplicate, sOf_set, ofI_set, allU8_set, maxLen] <;> omega)
 refine WK [(0, Lz v0), (1, Iz v1)] [] 0 (by simp [-List.reduceReplicate, sOf_set, ofI_set, allU8_set]) (by simp [-List.reduceReplicate, sOf_set, ofI_set, allU8_set]) ?_
 refine AW.seq fun K56 hK56 => ?_
 refine SQ [] [none, none] fun _ _ g r => ?_
 try simp [-List.reduceReplicate, sOf_set, ofI_set, allU8_set]
 and_intros <;> first | exact g _ (by kernel_rfl) | refine r _ _ _ ?_ | omega | (simp [-List.reduceReplicate, sOf_set, ofI_set, allU8_set, maxLen] <;> omega)
 refine WK [(0, Lz v0), (1, Iz v1), (10, AV.bool (decide (v1 < 0)))] [] 0 (by simp [-List.reduceReplicate, sOf_set, ofI_set, allU8_set]) (by simp [-List.reduceReplicate, sOf_set, ofI_set, allU8_set]) ?_
 by_cases h1 : v1 < 0
 ·replace hF := ite_t h1 hF
  cases hF
 ·replace hF := ite_f h1 hF
  have h1_ := h1
  try simp [-List.reduceReplicate] at h1_
  refine CF (by simp [-List.reduceReplicate, sOf_set, ofI_set, allU8_set, h1, h1_] <;> omega) ?_
  refine AW.skip ?_
  refine hK56 _ _ _ ?_
  refine SQ [] [none, none, none, none, none, none, none, none, none, none, none] fun _ _ g r => ?_
  try simp [-List.reduceReplicate, sOf_set, ofI_set, allU8_set, h1, h1_]
  and_intros
  try any_goals first | omega | (simp [-List.reduceReplicate, sOf_set, ofI_set, allU8_set, h1, h1_, maxLen] <;> omega)
  obtain ⟨v3, v4, h2, hF⟩ := bnd2_elim hF
  refine AC (w_math_bits_Mul k _ _ _ _ h2) (.cons (.same (by simp [-List.reduceReplicate, sOf_set, ofI_set, allU8_set, h1, h1_])) (.cons (.same (by simp [-List.reduceReplicate, sOf_set, ofI_set, allU8_set, h1, h1_])) .nil)) ?_
  try simp [-List.reduceReplicate, sOf_set, ofI_set, allU8_set, h1, h1_]
  and_intros <;> first | exact g _ (by kernel_rfl) | refine r _ _ _ ?_ | omega | (simp [-List.reduceReplicate, sOf_set, ofI_set, allU8_set, h1, h1_, maxLen] <;> omega)
  refine WK [(0, Lz v0), (5, AV.int .u64 v3), (6, AV.int .u64 v4)] [] 0 (by simp [-List.reduceReplicate, sOf_set, ofI_set, allU8_set, h1, h1_]) (by simp [-List.reduceReplicate, sOf_set, ofI_set, allU8_set, h1, h1_]) ?_
  refine AW.seq fun K63 hK63 => ?_
  refine SQ [] [none, none, none, some (23, false), some (23, false), none] fun _ _ g r => ?_
  by_cases h3 : 0 < v3
  ·replace hF := ite_t h3 hF
   have h3_ := h3
   try simp [-List.reduceReplicate] at h3_
   have F1 := And.intro h1 (And.intro h1_ (And.intro h3 h3_))
   try simp [-List.reduceReplicate, sOf_set, ofI_set, allU8_set, F1]
   and_intros <;> first | exact g _ (by kernel_rfl) | refine r _ _ _ ?_ | omega | (simp [-List.reduceReplicate, sOf_set, ofI_set, allU8_set, maxLen, F1] <;> omega)
   refine WK [(0, Lz v0), (6, AV.int .u64 v4), (26, AV.bool true)] [] 0 (by simp [-List.reduceReplicate, sOf_set, ofI_set, allU8_set, F1]) (by simp [-List.reduceReplicate, sOf_set, ofI_set, allU8_set, F1]) ?_
   refine CT (by simp [-List.reduceReplicate, sOf_set, ofI_set, allU8_set, F1]) ?_
   cases hF
  ·replace hF := ite_f h3 hF
   have h3_ := h3
   try simp [-List.reduceReplicate] at h3_
   have F2 := And.intro h1 (And.intro h1_ (And.intro h3 h3_))
   try simp [-List.reduceReplicate, sOf_set, ofI_set, allU8_set, F2]
   and_intros <;> first | exact g _ (by kernel_rfl) | refine r _ _ _ ?_ | omega | (simp [-List.reduceReplicate, sOf_set, ofI_set, allU8_set, maxLen, F2] <;> omega)
   refine WK [(0, Lz v0), (6, AV.int .u64 v4), (26, AV.bool (decide (9223372036854775807 < v4)))] [] 0 (by simp [-List.reduceReplicate, sOf_set, ofI_set, allU8_set, F2]) (by simp [-List.reduceReplicate, sOf_set, ofI_set, allU8_set, F2]) ?_
   by_cases h4 : 9223372036854775807 < v4
   ·replace hF := ite_t h4 hF
    cases hF
   ·replace hF := ite_f h4 hF
    have h4_ := h4
    try simp [-List.reduceReplicate] at h4_
    refine CF (by simp [-List.reduceReplicate, sOf_set, ofI_set, allU8_set, F2, h4, h4_] <;> omega) ?_
    refine AW.skip ?_
    refine hK63 _ _ _ ?_
    refine SQ [30] [none, none, none, none] fun _ _ g r => ?_
    obtain ⟨h5, hF⟩ := chk_elim hF
    have F3 := And.intro F2 (And.intro h4 (And.intro h4_ h5))
    try simp [-List.reduceReplicate, sOf_set, ofI_set, allU8_set, F3]
    and_intros <;> first | exact g _ (by kernel_rfl) | refine r _ _ _ ?_ | omega | (simp [-List.reduceReplicate, sOf_set, ofI_set, allU8_set, maxLen, F3] <;> omega)
    refine WK [(0, Lz v0), (7, AV.slc 0 0 1 ((List.replicate (IntKind.wrap .i64 v4).toNat (0 : Int)).length) true)] [(0, .cells (List.map (AV.int .i64) (List.replicate (IntKind.wrap .i64 v4).toNat (0 : Int))))] 1 (by simp [-List.reduceReplicate, sOf_set, ofI_set, allU8_set, F3]) (by simp [-List.reduceReplicate, sOf_set, ofI_set, allU8_set, F3]) ?_
    refine SQ [] [none, none, none, none] fun _ _ g r => ?_
    obtain ⟨⟨h6, h7, h8⟩, hF⟩ := chk_elim hF
    have h6n := ne_of_pos h6
    have h6_ := h6
    try simp [-List.reduceReplicate] at h6_
    have h7_ := h7
    try simp [-List.reduceReplicate] at h7_
    have h8_ := h8
    try simp [-List.reduceReplicate] at h8_
    have h9 := setR_cat (F := (AV.int .i64)) (es := 1) (fun _ => rfl) (List.replicate (IntKind.wrap .i64 v4).toNat (0 : Int)) v0 (off := 0) (by omega)
    obtain ⟨v5, h10, hF⟩ := let1_elim hF
    rw [h10] at h9
    have h9_ := h9
    try simp [-List.reduceReplicate] at h9_
    have h10l : v5.length = (List.replicate (IntKind.wrap .i64 v4).toNat (0 : Int)).length := by rw [← h10]; simp <;> omega
    have h10p : 0 < v5.length := by omega
    have h10n := ne_of_pos h10p
    have h10f := flat_ne (F := (AV.int .i64)) (es := 1) (fun _ => rfl) (by decide) h10p
    have F4 := And.intro F3 (And.intro h6 (And.intro h7 (And.intro h8 (And.intro h6_ (And.intro h7_ (And.intro h8_ (And.intro h9 (And.intro h9_ (And.intro h6n (And.intro h10l (And.intro h10p (And.intro h10n h10f))))))))))))
    try simp [-List.reduceReplicate, sOf_set, ofI_set, allU8_set, F4]
    and_intros <;> first | exact g _ (by kernel_rfl) | refine r _ _ _ ?_ | omega | (simp [-List.reduceReplicate, sOf_set, ofI_set, allU8_set, maxLen, F4] <;> omega)
    refine WK [(7, AV.slc 0 0 1 v5.length true), (8, Iz (v0.length : Int))] [(0, .cells (List.map (AV.int .i64) v5))] 1 (by simp [-List.reduceReplicate, sOf_set, ofI_set, allU8_set, F4]) (by simp [-List.reduceReplicate, sOf_set, ofI_set, allU8_set, F4]) ?_
    refine AW.seq fun K86 hK86 => ?_
    refine AW.block ?_
    refine AW.loopF (α := (Int × (List Int))) (fun n (v6, v7) => slices_Repeat_int_int.L1 k n v6 v7 = some v2) (fun (v6, v7) => [(7, AV.slc 0 0 1 v7.length true), (8, Iz v6)]) (fun (v6, v7) => [(0, .cells (List.map (AV.int .i64) v7))]) 1 k (((v0.length : Int), v5)) hF (by simp [-List.reduceReplicate, sOf_set, ofI_set, allU8_set, F4]) (by simp [-List.reduceReplicate, sOf_set, ofI_set, allU8_set, F4]) (by simp) ?_
    rintro (_|n1) ⟨v6, v7⟩ hF K99 hK99
    ·try dsimp only at hF
     rw [slices_Repeat_int_int.L1] at hF; cases hF
    try dsimp only at hF
    rw [slices_Repeat_int_int.L1] at hF
    refine AW.seq fun K101 hK101 => ?_
    refine SQ [] [none, none, none, none] fun _ _ g r => ?_
    try simp [-List.reduceReplicate, sOf_set, ofI_set, allU8_set, F4]
    and_intros <;> first | exact g _ (by kernel_rfl) | refine r _ _ _ ?_ | omega | (simp [-List.reduceReplicate, sOf_set, ofI_set, allU8_set, maxLen, F4] <;> omega)
    refine WK [(7, AV.slc 0 0 1 v7.length true), (8, Iz v6), (37, AV.bool (decide (v6 < (v7.length : Int))))] [(0, .cells (List.map (AV.int .i64) v7))] 1 (by simp [-List.reduceReplicate, sOf_set, ofI_set, allU8_set, F4]) (by simp [-List.reduceReplicate, sOf_set, ofI_set, allU8_set, F4]) ?_
    by_cases h11 : v6 < (v7.length : Int)
    ·replace hF := ite_t h11 hF
     have h11_ := h11
     try simp [-List.reduceReplicate] at h11_
     have F5 := And.intro F4 (And.intro h11 h11_)
     refine CT (by simp [-List.reduceReplicate, sOf_set, ofI_set, allU8_set, F5] <;> omega) ?_
     refine AW.skip ?_
     refine hK101 _ _ _ ?_
     refine AW.block ?_
     refine RG [] [none, none, none, none, none, none, none, none, none, none] fun _ _ g r => ?_
     obtain ⟨⟨h12, h13⟩, hF⟩ := chk_elim hF
     have h12_ := h12
     try simp [-List.reduceReplicate] at h12_
     have h13_ := h13
     try simp [-List.reduceReplicate] at h13_
     obtain ⟨⟨h14, h15⟩, hF⟩ := chk_elim hF
     have h14_ := h14
     try simp [-List.reduceReplicate] at h14_
     have h15_ := h15
     try simp [-List.reduceReplicate] at h15_
     obtain ⟨⟨h16, h17, h18, h19⟩, hF⟩ := chk_elim hF
     have h16n := ne_of_pos h16
     have h16_ := h16
     try simp [-List.reduceReplicate] at h16_
     have h17_ := h17
     try simp [-List.reduceReplicate] at h17_
     have h18_ := h18
     try simp [-List.reduceReplicate] at h18_
     have h19_ := h19
     try simp [-List.reduceReplicate] at h19_
     have h20 := setR_cat (F := (AV.int .i64)) (es := 1) (fun _ => rfl) v7 ((v7.drop 0).take (min ((v6).toNat) (v7.length - ((v6).toNat)))) (off := (v6).toNat) (by omega)
     obtain ⟨v8, h21, hF⟩ := let1_elim hF
     rw [h21] at h20
     have h20_ := h20
     try simp [-List.reduceReplicate] at h20_
     have h21l : v8.length = v7.length := by rw [← h21]; simp <;> omega
     have h21p : 0 < v8.length := by omega
     have h21n := ne_of_pos h21p
     have h21f := flat_ne (F := (AV.int .i64)) (es := 1) (fun _ => rfl) (by decide) h21p
     have F6 := And.intro F5 (And.intro h12 (And.intro h13 (And.intro h12_ (And.intro h13_ (And.intro h14 (And.intro h15 (And.intro h14_ (And.intro h15_ (And.intro h16 (And.intro h17 (And.intro h18 (And.intro h19 (And.intro h16_ (And.intro h17_ (And.intro h18_ (And.intro h19_ (And.intro h20 (And.intro h20_ (And.intro h16n (And.intro h21l (And.intro h21p (And.intro h21n h21f))))))))))))))))))))))
     try simp [-List.reduceReplicate, sOf_set, ofI_set, allU8_set, F6]
     and_intros <;> first | exact g _ (by kernel_rfl) | refine r _ _ _ ?_ | omega | (simp [-List.reduceReplicate, sOf_set, ofI_set, allU8_set, maxLen, F6] <;> omega)
     refine hK99 _ _ _ ?_
     exact NX (k' := n1) ((IntKind.wrap .i64 (v6 + (((v7.drop 0).take (min ((v6).toNat) (v7.length - ((v6).toNat)))).length : Int)), v8)) hF (by simp [-List.reduceReplicate, sOf_set, ofI_set, allU8_set, F6]) (by simp [-List.reduceReplicate, sOf_set, ofI_set, allU8_set, F6])
    ·replace hF := ite_f h11 hF
     have h11_ := h11
     try simp [-List.reduceReplicate] at h11_
     have F7 := And.intro F4 (And.intro h11 h11_)
     refine CF (by simp [-List.reduceReplicate, sOf_set, ofI_set, allU8_set, F7] <;> omega) ?_
     refine AW.exit ?_
     try simp [-List.reduceReplicate]
     refine hK86 _ _ _ ?_
     refine SQ [] [none, none] fun _ _ g r => ?_
     try simp [-List.reduceReplicate, sOf_set, ofI_set, allU8_set, F7]
     and_intros <;> first | exact g _ (by kernel_rfl) | refine r _ _ _ ?_ | omega | (simp [-List.reduceReplicate, sOf_set, ofI_set, allU8_set, maxLen, F7] <;> omega)
     refine WK [(4, AV.slc 0 0 1 v7.length true)] [(0, .cells (List.map (AV.int .i64) v7))] 1 (by simp [-List.reduceReplicate, sOf_set, ofI_set, allU8_set, F7]) (by simp [-List.reduceReplicate, sOf_set, ofI_set, allU8_set, F7]) ?_
     refine AW.flg [(4, AV.slc 0 0 1 v7.length false)] [] ⟨.slc, trivial⟩ trivial (by simp) ?_
     simp only [Option.some.injEq] at hF
     subst hF
     refine AW.ret (hQ _ _ _ ?_ (matchO_0 ?_)).1
     ·simp [Try.f60, F7]
     ·simp [F7]
theorem w_distance_start (k : Nat) (v0 : Int) (v1 : (List api_Edge)) (v2 : (List Int)) (v3 : (List Int)) (v4 : Int) (v5 : Bool) (hF : distance_start k v0 v1 v2 v3 v4 = some v5) :
  FCall Try.prog 63 [AV.agg [AV.int .i64 v0, AV.lst false false (List.map api_Edge.av v1), AV.lst false false (List.map (AV.int .i64) v2)], AV.lst false false (List.map (AV.int .i64) v3), AV.int .i64 v4] [] (AV.bool v5) [] := by
 unfold distance_start at hF
 refine EN Try.func63 ?_
 intro c0 w0 Q h0 hQ
 refine WK [(0, AV.agg [Iz v0, AV.lst false false (List.map api_Edge.av v1), Lz v2]), (1, Lz v3), (2, Iz v4)] [] 0 (by simp) (by simp) ?_
 refine SQ [] [none, none] fun _ _ g r => ?_
 try simp
 and_intros <;> first | exact g _ (by kernel_rfl) | refine r _ _ _ ?_ | omega | (simp [maxLen] <;> omega)
 refine WK [(1, Lz v3), (2, Iz v4), (3, AV.ptr 0 0)] [(0, .cells [Iz v0, AV.lst false false (List.map api_Edge.av v1), Lz v2])] 1 (by simp) (by simp) ?_
 refine SQ [] [none, none, none, none, some (10, true), some (10, true), some (10, true), some (10, true), some (10, true), none, none] fun _ _ g r => ?_
 try simp
 and_intros
 try any_goals first | omega | (simp [maxLen] <;> omega)
 obtain ⟨v6, h1, hF⟩ := bnd1_elim hF
 refine AC (w_slices_Contains_int_int k _ _ _ h1) (.cons (.same (by simp)) (.cons (.same (by simp)) .nil)) ?_
 by_cases h2 : v6 = true
 ·replace hF := ite_t h2 hF
  have h2_ := h2
  try simp at h2_
  try simp [h2, h2_]
  and_intros
  try any_goals first | omega | (simp [h2, h2_, maxLen] <;> omega)
  obtain ⟨v7, h3, hF⟩ := bnd1_elim hF
  refine AC (w_slices_Contains_int_int k _ _ _ h3) (.cons (.same (by simp [h2, h2_])) (.cons (.same (by simp [h2, h2_])) .nil)) ?_
  try simp [h2, h2_]
  and_intros <;> first | exact g _ (by kernel_rfl) | refine r _ _ _ ?_ | omega | (simp [h2, h2_, maxLen] <;> omega)
  refine WK [(6, AV.bool (!v7))] [] 1 (by simp [h2, h2_]) (by simp [h2, h2_]) ?_
  simp only [Option.some.injEq] at hF
  subst hF
  refine AW.ret (hQ _ _ _ ?_ (matchO_0 ?_)).1
  ·simp [Try.f63, h2, h2_]
  ·simp [h2, h2_]
 ·replace hF := ite_f h2 hF
  have h2_ := h2
  try simp at h2_
  try simp [h2, h2_]
  and_intros <;> first | exact g _ (by kernel_rfl) | refine r _ _ _ ?_ | omega | (simp [h2, h2_, maxLen] <;> omega)
  refine WK [(6, AV.bool false)] [] 1 (by simp [h2, h2_]) (by simp [h2, h2_]) ?_
  simp only [Option.some.injEq] at hF
  subst hF
  refine AW.ret (hQ _ _ _ ?_ (matchO_0 ?_)).1
  ·simp [Try.f63, h2, h2_]
  ·simp [h2, h2_]
theorem w_distance_All_1 (k : Nat) (v0 : Int) (v1 : Int) (v2 : (List api_Edge)) (v3 : (List Int)) (v4 : (List Int)) (v5 : Bool) (hF : distance_All_1 k v0 v1 v2 v3 v4 = some v5) :
  FCall Try.prog 62 [AV.int .i64 v0, AV.ptr 0 0, AV.ptr 1 0] [.cells [AV.int .i64 v1, AV.lst false false (List.map api_Edge.av v2), AV.lst false false (List.map (AV.int .i64) v3)], .cells [AV.lst false false (List.map (AV.int .i64) v4)]] (AV.bool v5) [some (.cells [AV.int .i64 v1, AV.lst false false (List.map api_Edge.av v2), AV.lst false false (List.map (AV.int .i64) v3)]), some (.cells [AV.lst false false (List.map (AV.int .i64) v4)])] := by
 unfold distance_All_1 at hF
 refine EN Try.func62 ?_
 intro c0 w0 Q h0 hQ
 refine WK [(0, Iz v0), (1, AV.ptr 0 0), (2, AV.ptr 1 0)] [(0, .cells [Iz v1, AV.lst false false (List.map api_Edge.av v2), Lz v3]), (1, .cells [Lz v4])] 2 (by simp) (by simp) ?_
 refine SQ [] [none] fun _ _ g r => ?_
 try simp
 and_intros <;> first | exact g _ (by kernel_rfl) | refine r _ _ _ ?_ | omega | (simp [maxLen] <;> omega)
 refine WK [(0, Iz v0), (1, AV.ptr 0 0), (2, AV.ptr 1 0)] [(0, .cells [Iz v1, AV.lst false false (List.map api_Edge.av v2), Lz v3]), (1, .cells [Lz v4])] 2 (by simp) (by simp) ?_
 refine SQ [] [none, none, none, none, none] fun _ _ g r => ?_
 try simp
 and_intros
 try any_goals first | omega | (simp [maxLen] <;> omega)
 obtain ⟨v6, h1, hF⟩ := bnd1_elim hF
 refine AC (w_distance_start k _ _ _ _ _ _ h1) (.cons (.same (by simp)) (.cons (.same (by simp)) (.cons (.same (by simp)) .nil))) ?_
 try simp
 and_intros <;> first | exact g _ (by kernel_rfl) | refine r _ _ _ ?_ | omega | (simp [maxLen] <;> omega)
 refine WK [(4, AV.bool v6)] [(0, .cells [Iz v1, AV.lst false false (List.map api_Edge.av v2), Lz v3]), (1, .cells [Lz v4])] 2 (by simp) (by simp) ?_
 simp only [Option.some.injEq] at hF
 subst hF
 refine AW.ret (hQ _ _ _ ?_ (matchO_0 ?_)).1
 ·simp [Try.f62]
 ·simp
theorem w_lists_Where_All_1 (k : Nat) (v0 : Int) (v1 : Int) (v2 : (List api_Edge)) (v3 : (List Int)) (v4 : (List Int)) (v5 : (List Int)) (hF : lists_Where_All_1 k v0 v1 v2 v3 v4 = some v5) :
  FCall Try.prog 61 [AV.int .i64 v0, AV.fn 62 [AV.ptr 0 0, AV.ptr 1 0]] [.cells [AV.int .i64 v1, AV.lst false false (List.map api_Edge.av v2), AV.lst false false (List.map (AV.int .i64) v3)], .cells [AV.lst false false (List.map (AV.int .i64) v4)]] (AV.slc 2 0 1 v5.length false) [some (.cells [AV.int .i64 v1, AV.lst false false (List.map api_Edge.av v2), AV.lst false false (List.map (AV.int .i64) v3)]), some (.cells [AV.lst false false (List.map (AV.int .i64) v4)]), some (.grow (List.map (AV.int .i64) v5))] := by
 unfold lists_Where_All_1 at hF
 refine EN Try.func61 ?_
 intro c0 w0 Q h0 hQ
 refine WK [(0, Iz v0), (1, AV.fn 62 [AV.ptr 0 0, AV.ptr 1 0])] [(0, .cells [Iz v1, AV.lst false false (List.map api_Edge.av v2), Lz v3]), (1, .cells [Lz v4])] 2 (by simp) (by simp) ?_
 refine SQ [] [none] fun _ _ g r => ?_
 try simp
 and_intros <;> first | exact g _ (by kernel_rfl) | refine r _ _ _ ?_ | omega | (simp [maxLen] <;> omega)
 refine WK [(0, Iz v0), (1, AV.fn 62 [AV.ptr 0 0, AV.ptr 1 0])] [(0, .cells [Iz v1, AV.lst false false (List.map api_Edge.av v2), Lz v3]), (1, .cells [Lz v4])] 2 (by simp) (by simp) ?_
 refine SQ [] [none] fun _ _ g r => ?_
 try simp
 and_intros <;> first | exact g _ (by kernel_rfl) | refine r _ _ _ ?_ | omega | (simp [maxLen] <;> omega)
 refine WK [(0, Iz v0), (1, AV.fn 62 [AV.ptr 0 0, AV.ptr 1 0]), (5, AV.lst true true (List.map (AV.int .i64) ([] : List Int)))] [(0, .cells [Iz v1, AV.lst false false (List.map api_Edge.av v2), Lz v3]), (1, .cells [Lz v4])] 2 (by simp) (by simp) ?_
 refine AW.seq fun K133 hK133 => ?_
 refine SQ [] [none, none] fun _ _ g r => ?_
 try simp
 and_intros <;> first | exact g _ (by kernel_rfl) | refine r _ _ _ ?_ | omega | (simp [maxLen] <;> omega)
 refine WK [(1, AV.fn 62 [AV.ptr 0 0, AV.ptr 1 0]), (5, AV.lst true true (List.map (AV.int .i64) ([] : List Int))), (7, Iz v0), (8, Iz 0)] [(0, .cells [Iz v1, AV.lst false false (List.map api_Edge.av v2), Lz v3]), (1, .cells [Lz v4])] 2 (by simp) (by simp) ?_
 refine AW.block ?_
 refine AW.own' 5 1 true (by simp) (by decide) ?_
 refine AW.loopF (α := (Int × (List Int))) (fun n (v6, v7) => lists_Where_All_1.L1 k v0 v1 v2 v3 v4 n v6 v7 = some v5) (fun (v6, v7) => [(1, AV.fn 62 [AV.ptr 0 0, AV.ptr 1 0]), (5, AV.slc 2 0 1 v7.length false), (7, Iz v0), (8, Iz v6)]) (fun (v6, v7) => [(0, .cells [Iz v1, AV.lst false false (List.map api_Edge.av v2), Lz v3]), (1, .cells [Lz v4]), (2, .grow (List.map (AV.int .i64) v7))]) 3 k ((0, ([] : List Int))) hF (by simp) (by simp) (by simp) ?_
 rintro (_|n1) ⟨v6, v7⟩ hF K165 hK165
 ·try dsimp only at hF
  rw [lists_Where_All_1.L1] at hF; cases hF
 try dsimp only at hF
 rw [lists_Where_All_1.L1] at hF
 refine SQ [] [none] fun _ _ g r => ?_
 try simp
 and_intros <;> first | exact g _ (by kernel_rfl) | refine r _ _ _ ?_ | omega | (simp [maxLen] <;> omega)
 refine WK [(1, AV.fn 62 [AV.ptr 0 0, AV.ptr 1 0]), (5, AV.slc 2 0 1 v7.length false), (7, Iz v0), (8, Iz v6), (9, AV.bool (decide (v6 < v0)))] [(0, .cells [Iz v1, AV.lst false false (List.map api_Edge.av v2), Lz v3]), (1, .cells [Lz v4]), (2, .grow (List.map (AV.int .i64) v7))] 3 (by simp) (by simp) ?_
 refine AW.seq fun K167 hK167 => ?_
 by_cases h1 : v6 < v0
 ·replace hF := ite_t h1 hF
  have h1_ := h1
  try simp at h1_
  refine CT (by simp [h1, h1_] <;> omega) ?_
  refine AW.skip ?_
  refine hK167 _ _ _ ?_
  refine AW.midF (α := (List Int)) (fun v8 => lists_Where_All_1.J2 k v6 (fun v6_ v7_ => lists_Where_All_1.L1 k v0 v1 v2 v3 v4 n1 v6_ v7_) v8 = some v5) (fun v8 => [(1, AV.fn 62 [AV.ptr 0 0, AV.ptr 1 0]), (5, AV.slc 2 0 1 v8.length false), (7, Iz v0), (8, Iz v6)]) (fun v8 => [(0, .cells [Iz v1, AV.lst false false (List.map api_Edge.av v2), Lz v3]), (1, .cells [Lz v4]), (2, .grow (List.map (AV.int .i64) v8))]) 3 (fun K172 hK172 => ?_) ?_
  ·refine AW.block ?_
   refine SQ [] [none, none] fun _ _ g r => ?_
   try simp [h1, h1_]
   and_intros <;> first | exact g _ (by kernel_rfl) | refine r _ _ _ ?_ | omega | (simp [h1, h1_, maxLen] <;> omega)
   refine WK [(1, AV.fn 62 [AV.ptr 0 0, AV.ptr 1 0]), (5, AV.slc 2 0 1 v7.length false), (6, Iz v6), (7, Iz v0), (8, Iz v6)] [(0, .cells [Iz v1, AV.lst false false (List.map api_Edge.av v2), Lz v3]), (1, .cells [Lz v4]), (2, .grow (List.map (AV.int .i64) v7))] 3 (by simp [h1, h1_]) (by simp [h1, h1_]) ?_
   refine SQ [] [none, none, none] fun _ _ g r => ?_
   try simp [h1, h1_]
   and_intros
   try any_goals first | omega | (simp [h1, h1_, maxLen] <;> omega)
   obtain ⟨v9, h2, hF⟩ := bnd1_elim hF
   refine aCall_l (w_distance_All_1 k _ _ _ _ _ _ h2) (by simp) [0, 1] [] [] rfl (.cons (.same (by simp [h1, h1_])) (.cons (.same (by simp [h1, h1_])) (.cons (.same (by simp [h1, h1_])) .nil))) (by simp [h1, h1_]) (by decide) (by simp) (by simp) (.inl rfl) (by simp) (by simp) ?_
   try simp [h1, h1_]
   and_intros <;> first | exact g _ (by kernel_rfl) | refine r _ _ _ ?_ | omega | (simp [h1, h1_, maxLen] <;> omega)
   refine WK [(1, AV.fn 62 [AV.ptr 0 0, AV.ptr 1 0]), (5, AV.slc 2 0 1 v7.length false), (6, Iz v6), (7, Iz v0), (8, Iz v6), (13, AV.bool v9)] [(0, .cells [Iz v1, AV.lst false false (List.map api_Edge.av v2), Lz v3]), (1, .cells [Lz v4]), (2, .grow (List.map (AV.int .i64) v7))] 3 (by simp [h1, h1_]) (by simp [h1, h1_]) ?_
   by_cases h3 : v9 = true
   ·replace hF := ite_t h3 hF
    have h3_ := h3
    try simp at h3_
    have F1 := And.intro h1 (And.intro h1_ (And.intro h3 h3_))
    refine CT (by simp [F1] <;> omega) ?_
    refine RG [] [none, none, none, none, none] fun _ _ g r => ?_
    obtain ⟨h4, hF⟩ := chk_elim hF
    have h4_ := h4
    try simp at h4_
    have F2 := And.intro F1 h4
    try simp [F2]
    and_intros <;> first | exact g _ (by kernel_rfl) | refine r _ _ _ ?_ | omega | (simp [maxLen, F2] <;> omega)
    refine hK172 _ _ _ ?_
    refine Can.weak [(1, AV.fn 62 [AV.ptr 0 0, AV.ptr 1 0]), (5, AV.slc 3 0 1 ((v7 ++ ([v6] : List Int)).length) false), (7, Iz v0), (8, Iz v6)] [(0, .cells [Iz v1, AV.lst false false (List.map api_Edge.av v2), Lz v3]), (1, .cells [Lz v4]), (3, .grow (List.map (AV.int .i64) (v7 ++ ([v6] : List Int))))] 4 (by simp [F2] <;> omega) (by simp [F2]) (by simp) ?_
    refine Can.ren (m := 2) h0 [(0, 0), (1, 1), (2, 3)] [(1, AV.fn 62 [AV.ptr 0 0, AV.ptr 1 0]), (5, AV.slc 2 0 1 ((v7 ++ ([v6] : List Int)).length) false), (7, Iz v0), (8, Iz v6)] [(0, .cells [Iz v1, AV.lst false false (List.map api_Edge.av v2), Lz v3]), (1, .cells [Lz v4]), (2, .grow (List.map (AV.int .i64) (v7 ++ ([v6] : List Int))))] 3 (by decide) (by decide) (by decide) rfl (by simp [F2]) (by simp [F2]) ?_
    exact JN (v7 ++ ([v6] : List Int)) hF (by simp [F2]) (by simp [F2])
   ·replace hF := ite_f h3 hF
    have h3_ := h3
    try simp at h3_
    have F3 := And.intro h1 (And.intro h1_ (And.intro h3 h3_))
    refine CF (by simp [F3] <;> omega) ?_
    refine AW.skip ?_
    refine hK172 _ _ _ ?_
    exact JN (v7) hF (by simp [F3]) (by simp [F3])
  ·rintro v8 hF
   try dsimp only at hF
   unfold lists_Where_All_1.J2 at hF
   refine RG [] [none, none] fun _ _ g r => ?_
   try simp [h1, h1_]
   and_intros <;> first | exact g _ (by kernel_rfl) | refine r _ _ _ ?_ | omega | (simp [h1, h1_, maxLen] <;> omega)
   refine hK165 _ _ _ ?_
   exact NX (k' := n1) ((IntKind.wrap .i64 (v6 + 1), v8)) hF (by simp [h1, h1_]) (by simp [h1, h1_])
 ·replace hF := ite_f h1 hF
  have h1_ := h1
  try simp at h1_
  refine CF (by simp [h1, h1_] <;> omega) ?_
  refine AW.exit ?_
  try simp
  refine hK133 _ _ _ ?_
  refine SQ [] [none, none] fun _ _ g r => ?_
  try simp [h1, h1_]
  and_intros <;> first | exact g _ (by kernel_rfl) | refine r _ _ _ ?_ | omega | (simp [h1, h1_, maxLen] <;> omega)
  refine WK [(4, AV.slc 2 0 1 v7.length false)] [(0, .cells [Iz v1, AV.lst false false (List.map api_Edge.av v2), Lz v3]), (1, .cells [Lz v4]), (2, .grow (List.map (AV.int .i64) v7))] 3 (by simp [h1, h1_]) (by simp [h1, h1_]) ?_
  simp only [Option.some.injEq] at hF
  subst hF
  refine AW.ret (hQ _ _ _ ?_ (matchO_0 ?_)).1
  ·simp [Try.f61, h1, h1_]
  ·simp [h1, h1_]
theorem w_math_bits_Len64 (k : Nat) (v0 : Int) (v1 : Int) (hF : math_bits_Len64 k v0 = some v1) :
  FCall Try.prog 94 [AV.int .u64 v0] [] (AV.int .i64 v1) [] := by
 unfold math_bits_Len64 at hF
 refine EN Try.func94 ?_
 intro c0 w0 Q h0 hQ
 refine WK [(0, AV.int .u64 v0)] [] 0 (by simp) (by simp) ?_
 refine SQ [] [none] fun _ _ g r => ?_
 try simp
 and_intros <;> first | exact g _ (by kernel_rfl) | refine r _ _ _ ?_ | omega | (simp [maxLen] <;> omega)
 refine WK [(0, AV.int .u64 v0), (2, Iz 0)] [] 0 (by simp) (by simp) ?_
 refine AW.midF (α := (Int × Int)) (fun (v2, v3) => math_bits_Len64.J1 k v2 v3 = some v1) (fun (v2, v3) => [(0, AV.int .u64 v2), (2, Iz v3)]) (fun (v2, v3) => []) 0 (fun K43 hK43 => ?_) ?_
 ·refine SQ [] [none, none] fun _ _ g r => ?_
  try simp
  and_intros <;> first | exact g _ (by kernel_rfl) | refine r _ _ _ ?_ | omega | (simp [maxLen] <;> omega)
  refine WK [(0, AV.int .u64 v0), (2, Iz 0), (4, AV.bool (decide (4294967296 ≤ v0)))] [] 0 (by simp) (by simp) ?_
  by_cases h6 : 4294967296 ≤ v0
  ·replace hF := ite_t h6 hF
   have h6_ := h6
   try simp at h6_
   refine CT (by simp [h6, h6_] <;> omega) ?_
   refine SQ [] [none, none, none] fun _ _ g r => ?_
   try simp [h6, h6_]
   and_intros <;> first | exact g _ (by kernel_rfl) | refine r _ _ _ ?_ | omega | (simp [h6, h6_, maxLen] <;> omega)
   refine WK [(0, AV.int .u64 (Int.fdiv v0 (2 ^ (32))))] [] 0 (by simp [h6, h6_]) (by simp [h6, h6_]) ?_
   refine RG [] [none] fun _ _ g r => ?_
   try simp [h6, h6_]
   and_intros <;> first | exact g _ (by kernel_rfl) | refine r _ _ _ ?_ | omega | (simp [h6, h6_, maxLen] <;> omega)
   refine hK43 _ _ _ ?_
   exact JN ((Int.fdiv v0 (2 ^ (32)), 32)) hF (by simp [h6, h6_]) (by simp [h6, h6_])
  ·replace hF := ite_f h6 hF
   have h6_ := h6
   try simp at h6_
   refine CF (by simp [h6, h6_] <;> omega) ?_
   refine AW.skip ?_
   refine hK43 _ _ _ ?_
   exact JN ((v0, 0)) hF (by simp [h6, h6_]) (by simp [h6, h6_])
 ·rintro ⟨v2, v3⟩ hF
  try dsimp only at hF
  unfold math_bits_Len64.J1 at hF
  refine AW.midF (α := (Int × Int)) (fun (v4, v5) => math_bits_Len64.J2 k v4 v5 = some v1) (fun (v4, v5) => [(0, AV.int .u64 v4), (2, Iz v5)]) (fun (v4, v5) => []) 0 (fun K39 hK39 => ?_) ?_
  ·refine SQ [] [none, none] fun _ _ g r => ?_
   try simp
   and_intros <;> first | exact g _ (by kernel_rfl) | refine r _ _ _ ?_ | omega | (simp [maxLen] <;> omega)
   refine WK [(0, AV.int .u64 v2), (2, Iz v3), (8, AV.bool (decide (65536 ≤ v2)))] [] 0 (by simp) (by simp) ?_
   by_cases h5 : 65536 ≤ v2
   ·replace hF := ite_t h5 hF
    have h5_ := h5
    try simp at h5_
    refine CT (by simp [h5, h5_] <;> omega) ?_
    refine SQ [] [none, none, none] fun _ _ g r => ?_
    try simp [h5, h5_]
    and_intros <;> first | exact g _ (by kernel_rfl) | refine r _ _ _ ?_ | omega | (simp [h5, h5_, maxLen] <;> omega)
    refine WK [(0, AV.int .u64 (Int.fdiv v2 (2 ^ (16)))), (2, Iz v3)] [] 0 (by simp [h5, h5_]) (by simp [h5, h5_]) ?_
    refine RG [] [none, none, none] fun _ _ g r => ?_
    try simp [h5, h5_]
    and_intros <;> first | exact g _ (by kernel_rfl) | refine r _ _ _ ?_ | omega | (simp [h5, h5_, maxLen] <;> omega)
    refine hK39 _ _ _ ?_
    exact JN ((Int.fdiv v2 (2 ^ (16)), IntKind.wrap .i64 (v3 + 16))) hF (by simp [h5, h5_]) (by simp [h5, h5_])
   ·replace hF := ite_f h5 hF
    have h5_ := h5
    try simp at h5_
    refine CF (by simp [h5, h5_] <;> omega) ?_
    refine AW.skip ?_
    refine hK39 _ _ _ ?_
    exact JN ((v2, v3)) hF (by simp [h5, h5_]) (by simp [h5, h5_])
  ·rintro ⟨v4, v5⟩ hF
   try dsimp only at hF
   unfold math_bits_Len64.J2 at hF
   refine AW.midF (α := (Int × Int)) (fun (v6, v7) => math_bits_Len64.J3 k v6 v7 = some v1) (fun (v6, v7) => [(0, AV.int .u64 v6), (2, Iz v7)]) (fun (v6, v7) => []) 0 (fun K35 hK35 => ?_) ?_
   ·refine SQ [] [none, none] fun _ _ g r => ?_
    try simp
    and_intros <;> first | exact g _ (by kernel_rfl) | refine r _ _ _ ?_ | omega | (simp [maxLen] <;> omega)
    refine WK [(0, AV.int .u64 v4), (2, Iz v5), (14, AV.bool (decide (256 ≤ v4)))] [] 0 (by simp) (by simp) ?_
    by_cases h4 : 256 ≤ v4
    ·replace hF := ite_t h4 hF
     have h4_ := h4
     try simp at h4_
     refine CT (by simp [h4, h4_] <;> omega) ?_
     refine SQ [] [none, none, none] fun _ _ g r => ?_
     try simp [h4, h4_]
     and_intros <;> first | exact g _ (by kernel_rfl) | refine r _ _ _ ?_ | omega | (simp [h4, h4_, maxLen] <;> omega)
     refine WK [(0, AV.int .u64 (Int.fdiv v4 (2 ^ (8)))), (2, Iz v5)] [] 0 (by simp [h4, h4_]) (by simp [h4, h4_]) ?_
     refine RG [] [none, none, none] fun _ _ g r => ?_
     try simp [h4, h4_]
     and_intros <;> first | exact g _ (by kernel_rfl) | refine r _ _ _ ?_ | omega | (simp [h4, h4_, maxLen] <;> omega)
     refine hK35 _ _ _ ?_
     exact JN ((Int.fdiv v4 (2 ^ (8)), IntKind.wrap .i64 (v5 + 8))) hF (by simp [h4, h4_]) (by simp [h4, h4_])
    ·replace hF := ite_f h4 hF
     have h4_ := h4
     try simp at h4_
     refine CF (by simp [h4, h4_] <;> omega) ?_
     refine AW.skip ?_
     refine hK35 _ _ _ ?_
     exact JN ((v4, v5)) hF (by simp [h4, h4_]) (by simp [h4, h4_])
   ·rintro ⟨v6, v7⟩ hF
    try dsimp only at hF
    unfold math_bits_Len64.J3 at hF
    refine SQ [] [none, none, none, none, none, none, none] fun _ _ g r => ?_
    obtain ⟨v8, h1, h2, h3, hF⟩ := idx_elim hF
    have h3_ := get_of h3
    have h2_ := h2
    simp at h2_
    have h1_ := h1
    try simp at h1_
    have h3__ := h3_
    try simp [bI] at h3__
    have h3b := bI_at h3
    try simp at h3b
    have F1 := And.intro h1 (And.intro h1_ (And.intro h2_ (And.intro h3 (And.intro h3_ (And.intro h3__ h3b)))))
    try simp [F1]
    and_intros <;> first | exact g _ (by kernel_rfl) | refine r _ _ _ ?_ | omega | (simp [maxLen, F1] <;> omega)
    refine WK [(2, Iz (IntKind.wrap .i64 (v7 + IntKind.wrap .i64 v8)))] [] 0 (by simp [F1]) (by simp [F1]) ?_
    simp only [Option.some.injEq] at hF
    subst hF
    refine AW.ret (hQ _ _ _ ?_ (matchO_0 ?_)).1
    ·simp [Try.f94, F1]
    ·simp [F1]
theorem w_math_bits_Len (k : Nat) (v0 : Int) (v1 : Int) (hF : math_bits_Len k v0 = some v1) :
  FCall Try.prog 79 [AV.int .u64 v0] [] (AV.int .i64 v1) [] := by
 unfold math_bits_Len at hF
 refine EN Try.func79 ?_
 intro c0 w0 Q h0 hQ
 refine WK [(0, AV.int .u64 v0)] [] 0 (by simp) (by simp) ?_
 refine SQ [] [none] fun _ _ g r => ?_
 try simp
 and_intros <;> first | exact g _ (by kernel_rfl) | refine r _ _ _ ?_ | omega | (simp [maxLen] <;> omega)
 refine WK [(0, AV.int .u64 v0)] [] 0 (by simp) (by simp) ?_
 refine AW.seq fun K5 hK5 => ?_
 refine AW.condCF ?_
 refine AW.skip ?_
 refine hK5 _ _ _ ?_
 refine SQ [] [none, none, none] fun _ _ g r => ?_
 try simp
 and_intros
 try any_goals first | omega | (simp [maxLen] <;> omega)
 obtain ⟨v2, h1, hF⟩ := bnd1_elim hF
 refine AC (w_math_bits_Len64 k _ _ h1) (.cons (.same (by simp)) .nil) ?_
 try simp
 and_intros <;> first | exact g _ (by kernel_rfl) | refine r _ _ _ ?_ | omega | (simp [maxLen] <;> omega)
 refine WK [(2, Iz v2)] [] 0 (by simp) (by simp) ?_
 simp only [Option.some.injEq] at hF
 subst hF
 refine AW.ret (hQ _ _ _ ?_ (matchO_0 ?_)).1
 ·simp [Try.f79]
 ·simp
theorem w_cmp_Less_int (k : Nat) (v0 : Int) (v1 : Int) (v2 : Bool) (hF : cmp_Less_int k v0 v1 = some v2) :
  FCall Try.prog 90 [AV.int .i64 v0, AV.int .i64 v1] [] (AV.bool v2) [] := by
 unfold cmp_Less_int at hF
 refine EN Try.func90 ?_
 intro c0 w0 Q h0 hQ
 refine WK [(0, Iz v0), (1, Iz v1)] [] 0 (by simp) (by simp) ?_
 refine SQ [] [none] fun _ _ g r => ?_
 try simp
 and_intros <;> first | exact g _ (by kernel_rfl) | refine r _ _ _ ?_ | omega | (simp [maxLen] <;> omega)
 refine WK [(0, Iz v0), (1, Iz v1)] [] 0 (by simp) (by simp) ?_
 refine SQ [] [none, none, none, some (7, true), some (7, true), some (7, true), none, none, some (12, false), some (12, false), some (12, false), none, none] fun _ _ g r => ?_
 try simp
 and_intros
 try any_goals first | omega | (simp [maxLen] <;> omega)
 obtain ⟨v3, h1, hF⟩ := bnd1_elim hF
 refine AC (w_cmp_isNaN_int k _ _ h1) (.cons (.same (by simp)) .nil) ?_
 by_cases h2 : v3 = true
 ·replace hF := ite_t h2 hF
  have h2_ := h2
  try simp at h2_
  try simp [h2, h2_]
  and_intros
  try any_goals first | omega | (simp [h2, h2_, maxLen] <;> omega)
  obtain ⟨v4, h3, hF⟩ := bnd1_elim hF
  refine AC (w_cmp_isNaN_int k _ _ h3) (.cons (.same (by simp [h2, h2_])) .nil) ?_
  by_cases h4 : (!v4) = true
  ·replace hF := ite_t h4 hF
   have h4_ := h4
   try simp at h4_
   have F1 := And.intro h2 (And.intro h2_ (And.intro h4 h4_))
   try simp [F1]
   and_intros <;> first | exact g _ (by kernel_rfl) | refine r _ _ _ ?_ | omega | (simp [maxLen, F1] <;> omega)
   refine WK [(4, AV.bool true)] [] 0 (by simp [F1]) (by simp [F1]) ?_
   simp only [Option.some.injEq] at hF
   subst hF
   refine AW.ret (hQ _ _ _ ?_ (matchO_0 ?_)).1
   ·simp [Try.f90, F1]
   ·simp [F1]
  ·replace hF := ite_f h4 hF
   have h4_ := h4
   try simp at h4_
   have F2 := And.intro h2 (And.intro h2_ (And.intro h4 h4_))
   try simp [F2]
   and_intros <;> first | exact g _ (by kernel_rfl) | refine r _ _ _ ?_ | omega | (simp [maxLen, F2] <;> omega)
   refine WK [(4, AV.bool (decide (v0 < v1)))] [] 0 (by simp [F2]) (by simp [F2]) ?_
   simp only [Option.some.injEq] at hF
   subst hF
   refine AW.ret (hQ _ _ _ ?_ (matchO_0 ?_)).1
   ·simp [Try.f90, F2]
   ·simp [F2]
 ·replace hF := ite_f h2 hF
  have h2_ := h2
  try simp at h2_
  try simp [h2, h2_]
  and_intros <;> first | exact g _ (by kernel_rfl) | refine r _ _ _ ?_ | omega | (simp [h2, h2_, maxLen] <;> omega)
  refine WK [(4, AV.bool (decide (v0 < v1)))] [] 0 (by simp [h2, h2_]) (by simp [h2, h2_]) ?_
  simp only [Option.some.injEq] at hF
  subst hF
  refine AW.ret (hQ _ _ _ ?_ (matchO_0 ?_)).1
  ·simp [Try.f90, h2, h2_]
  ·simp [h2, h2_]
theorem w_slices_insertionSortOrdered_int (k : Nat) (v0 : (List Int)) (v1 : Int) (v2 : Int) (v3 : (List Int)) (hF : slices_insertionSortOrdered_int k v0 v1 v2 = some v3) :
  FCall Try.prog 84 [AV.slc 0 0 1 v0.length false, AV.int .i64 v1, AV.int .i64 v2] [.grow (List.map (AV.int .i64) v0)] (AV.tup []) [some (.grow (List.map (AV.int .i64) v3))] := by
 unfold slices_insertionSortOrdered_int at hF
 refine EN Try.func84 ?_
 intro c0 w0 Q h0 hQ
 refine WK [(0, AV.slc 0 0 1 v0.length false), (1, Iz v1), (2, Iz v2)] [(0, .grow (List.map (AV.int .i64) v0))] 1 (by simp) (by simp) ?_
 refine SQ [] [none, none, none] fun _ _ g r => ?_
 try simp
 and_intros <;> first | exact g _ (by kernel_rfl) | refine r _ _ _ ?_ | omega | (simp [maxLen] <;> omega)
 refine WK [(0, AV.slc 0 0 1 v0.length false), (1, Iz v1), (2, Iz v2), (6, Iz (IntKind.wrap .i64 (v1 + 1)))] [(0, .grow (List.map (AV.int .i64) v0))] 1 (by simp) (by simp) ?_
 refine AW.block ?_
 refine AW.loopF (α := (Int × (List Int))) (fun n (v4, v5) => slices_insertionSortOrdered_int.L1 k v1 v2 n v4 v5 = some v3) (fun (v4, v5) => [(0, AV.slc 0 0 1 v5.length false), (1, Iz v1), (2, Iz v2), (6, Iz v4)]) (fun (v4, v5) => [(0, .grow (List.map (AV.int .i64) v5))]) 1 k ((IntKind.wrap .i64 (v1 + 1), v0)) hF (by simp) (by simp) (by simp) ?_
 rintro (_|n1) ⟨v4, v5⟩ hF K459 hK459
 ·try dsimp only at hF
  rw [slices_insertionSortOrdered_int.L1] at hF; cases hF
 try dsimp only at hF
 rw [slices_insertionSortOrdered_int.L1] at hF
 refine AW.seq fun K461 hK461 => ?_
 refine SQ [] [none, none, none] fun _ _ g r => ?_
 try simp
 and_intros <;> first | exact g _ (by kernel_rfl) | refine r _ _ _ ?_ | omega | (simp [maxLen] <;> omega)
 refine WK [(0, AV.slc 0 0 1 v5.length false), (1, Iz v1), (2, Iz v2), (6, Iz v4), (12, AV.bool (decide (v4 < v2)))] [(0, .grow (List.map (AV.int .i64) v5))] 1 (by simp) (by simp) ?_
 by_cases h1 : v4 < v2
 ·replace hF := ite_t h1 hF
  have h1_ := h1
  try simp at h1_
  refine CT (by simp [h1, h1_] <;> omega) ?_
  refine AW.skip ?_
  refine hK461 _ _ _ ?_
  refine AW.midF (α := (List Int)) (fun v6 => slices_insertionSortOrdered_int.J2 k v4 (fun v4_ v5_ => slices_insertionSortOrdered_int.L1 k v1 v2 n1 v4_ v5_) v6 = some v3) (fun v6 => [(0, AV.slc 0 0 1 v6.length false), (1, Iz v1), (2, Iz v2), (6, Iz v4)]) (fun v6 => [(0, .grow (List.map (AV.int .i64) v6))]) 1 (fun K494 hK494 => ?_) ?_
  ·refine AW.block ?_
   refine SQ [] [none, none] fun _ _ g r => ?_
   try simp [h1, h1_]
   and_intros <;> first | exact g _ (by kernel_rfl) | refine r _ _ _ ?_ | omega | (simp [h1, h1_, maxLen] <;> omega)
   refine WK [(0, AV.slc 0 0 1 v5.length false), (1, Iz v1), (2, Iz v2), (6, Iz v4), (7, Iz v4)] [(0, .grow (List.map (AV.int .i64) v5))] 1 (by simp [h1, h1_]) (by simp [h1, h1_]) ?_
   refine AW.block ?_
   refine AW.loopF (α := (Int × (List Int))) (fun n (v7, v8) => slices_insertionSortOrdered_int.L3 k v1 v4 (fun v4_ v5_ => slices_insertionSortOrdered_int.L1 k v1 v2 n1 v4_ v5_) n v7 v8 = some v3) (fun (v7, v8) => [(0, AV.slc 0 0 1 v8.length false), (1, Iz v1), (2, Iz v2), (6, Iz v4), (7, Iz v7)]) (fun (v7, v8) => [(0, .grow (List.map (AV.int .i64) v8))]) 1 k ((v4, v5)) hF (by simp [h1, h1_]) (by simp [h1, h1_]) (by simp) ?_
   rintro (_|n3) ⟨v7, v8⟩ hF K517 hK517
   ·try dsimp only at hF
    rw [slices_insertionSortOrdered_int.L3] at hF; cases hF
   try dsimp only at hF
   rw [slices_insertionSortOrdered_int.L3] at hF
   refine AW.seq fun K519 hK519 => ?_
   refine SQ [] [none, none, none, none, some (19, true), some (19, true), some (19, true), some (19, true), some (19, true), some (19, true), some (19, true), some (19, true), some (19, true), some (19, true), none] fun _ _ g r => ?_
   by_cases h2 : v1 < v7
   ·replace hF := ite_t h2 hF
    have h2_ := h2
    try simp at h2_
    obtain ⟨⟨h3, h4⟩, hF⟩ := chk_elim hF
    have h4_ := ne_of_lt h4
    obtain ⟨v9, h5, h6, h7, hF⟩ := idx_elim hF
    have h7_ := get_of h7
    try simp at h7_
    have h6_ := h6
    try simp at h6_
    obtain ⟨⟨h8, h9⟩, hF⟩ := chk_elim hF
    have h9_ := ne_of_lt h9
    obtain ⟨v10, h10, h11, h12, hF⟩ := idx_elim hF
    have h12_ := get_of h12
    try simp at h12_
    have h11_ := h11
    try simp at h11_
    have F1 := And.intro h1 (And.intro h1_ (And.intro h2 (And.intro h2_ (And.intro h3 (And.intro h4 (And.intro h4_ (And.intro h5 (And.intro h6 (And.intro h7 (And.intro h7_ (And.intro h6_ (And.intro h8 (And.intro h9 (And.intro h9_ (And.intro h10 (And.intro h11 (And.intro h12 (And.intro h12_ h11_))))))))))))))))))
    try simp [F1]
    and_intros
    try any_goals first | omega | (simp [maxLen, F1] <;> omega)
    obtain ⟨v11, h13, hF⟩ := bnd1_elim hF
    refine AC (w_cmp_Less_int k _ _ _ h13) (.cons (.same (by simp [F1])) (.cons (.same (by simp [F1])) .nil)) ?_
    try simp [F1]
    and_intros <;> first | exact g _ (by kernel_rfl) | refine r _ _ _ ?_ | omega | (simp [maxLen, F1] <;> omega)
    refine WK [(0, AV.slc 0 0 1 v8.length false), (1, Iz v1), (2, Iz v2), (6, Iz v4), (7, Iz v7), (30, AV.bool v11)] [(0, .grow (List.map (AV.int .i64) v8))] 1 (by simp [F1]) (by simp [F1]) ?_
    by_cases h14 : v11 = true
    ·replace hF := ite_t h14 hF
     have h14_ := h14
     try simp at h14_
     have F2 := And.intro F1 (And.intro h14 h14_)
     refine CT (by simp [F2] <;> omega) ?_
     refine AW.skip ?_
     refine hK519 _ _ _ ?_
     refine AW.seq fun K522 hK522 => ?_
     refine AW.block ?_
     refine RG [] [none, none, none, none, none, none, none, none, none, none, none, none, none, none, none, none, none, none] fun _ _ g r => ?_
     obtain ⟨⟨h15, h16⟩, hF⟩ := chk_elim hF
     have h16_ := ne_of_lt h16
     obtain ⟨⟨h17, h18⟩, hF⟩ := chk_elim hF
     have h18_ := ne_of_lt h18
     obtain ⟨⟨h19, h20⟩, hF⟩ := chk_elim hF
     have h20_ := ne_of_lt h20
     obtain ⟨⟨h21, h22⟩, hF⟩ := chk_elim hF
     have h22_ := ne_of_lt h22
     have F3 := And.intro F2 (And.intro h15 (And.intro h16 (And.intro h16_ (And.intro h17 (And.intro h18 (And.intro h18_ (And.intro h19 (And.intro h20 (And.intro h20_ (And.intro h21 (And.intro h22 h22_)))))))))))
     try simp [F3]
     and_intros <;> first | exact g _ (by kernel_rfl) | refine r _ _ _ ?_ | omega | (simp [maxLen, F3] <;> omega)
     refine hK522 _ _ _ ?_
     refine WK [(0, AV.slc 0 0 1 (((v8.set (v7).toNat v10).set (IntKind.wrap .i64 (v7 - 1)).toNat v9).length) false), (1, Iz v1), (2, Iz v2), (6, Iz v4), (7, Iz v7)] [(0, .grow (List.map (AV.int .i64) ((v8.set (v7).toNat v10).set (IntKind.wrap .i64 (v7 - 1)).toNat v9)))] 1 (by simp [F3]) (by simp [F3]) ?_
     refine RG [] [none, none, none] fun _ _ g r => ?_
     try simp [F3]
     and_intros <;> first | exact g _ (by kernel_rfl) | refine r _ _ _ ?_ | omega | (simp [maxLen, F3] <;> omega)
     refine hK517 _ _ _ ?_
     exact NX (k' := n3) ((IntKind.wrap .i64 (v7 - 1), (v8.set (v7).toNat v10).set (IntKind.wrap .i64 (v7 - 1)).toNat v9)) hF (by simp [F3]) (by simp [F3])
    ·replace hF := ite_f h14 hF
     have h14_ := h14
     try simp at h14_
     have F4 := And.intro F1 (And.intro h14 h14_)
     refine CF (by simp [F4] <;> omega) ?_
     refine AW.exit ?_
     try simp
     refine hK494 _ _ _ ?_
     exact JN (v8) hF (by simp [F4]) (by simp [F4])
   ·replace hF := ite_f h2 hF
    have h2_ := h2
    try simp at h2_
    have F5 := And.intro h1 (And.intro h1_ (And.intro h2 h2_))
    try simp [F5]
    and_intros <;> first | exact g _ (by kernel_rfl) | refine r _ _ _ ?_ | omega | (simp [maxLen, F5] <;> omega)
    refine WK [(0, AV.slc 0 0 1 v8.length false), (1, Iz v1), (2, Iz v2), (6, Iz v4), (7, Iz v7), (30, AV.bool false)] [(0, .grow (List.map (AV.int .i64) v8))] 1 (by simp [F5]) (by simp [F5]) ?_
    refine CF (by simp [F5]) ?_
    refine AW.exit ?_
    try simp
    refine hK494 _ _ _ ?_
    exact JN (v8) hF (by simp [F5]) (by simp [F5])
  ·rintro v6 hF
   try dsimp only at hF
   unfold slices_insertionSortOrdered_int.J2 at hF
   refine RG [] [none, none, none] fun _ _ g r => ?_
   try simp [h1, h1_]
   and_intros <;> first | exact g _ (by kernel_rfl) | refine r _ _ _ ?_ | omega | (simp [h1, h1_, maxLen] <;> omega)
   refine hK459 _ _ _ ?_
   exact NX (k' := n1) ((IntKind.wrap .i64 (v4 + 1), v6)) hF (by simp [h1, h1_]) (by simp [h1, h1_])
 ·replace hF := ite_f h1 hF
  have h1_ := h1
  try simp at h1_
  refine CF (by simp [h1, h1_] <;> omega) ?_
  refine AW.exit ?_
  try simp
  simp only [Option.some.injEq] at hF
  subst hF
  refine (hQ _ _ _ ?_ (matchO_0 ?_)).2
  ·simp [Try.f84, h1, h1_]
  ·simp [h1, h1_]
theorem w_slices_pdqsortOrdered_int (k : Nat) (v0 : (List Int)) (v1 : Int) (v2 : Int) (v3 : Int) (v4 : (List Int)) (hF : slices_pdqsortOrdered_int k v0 v1 v2 v3 = some v4) :
  FCall Try.prog 78 [AV.slc 0 0 1 v0.length false, AV.int .i64 v1, AV.int .i64 v2, AV.int .i64 v3] [.grow (List.map (AV.int .i64) v0)] (AV.tup []) [some (.grow (List.map (AV.int .i64) v4))] := by
 unfold slices_pdqsortOrdered_int at hF
 refine EN Try.func78 ?_
 intro c0 w0 Q h0 hQ
 refine WK [(0, AV.slc 0 0 1 v0.length false), (1, Iz v1), (2, Iz v2), (3, Iz v3)] [(0, .grow (List.map (AV.int .i64) v0))] 1 (by simp) (by simp) ?_
 refine SQ [] [none] fun _ _ g r => ?_
 try simp
 and_intros <;> first | exact g _ (by kernel_rfl) | refine r _ _ _ ?_ | omega | (simp [maxLen] <;> omega)
 refine WK [(0, AV.slc 0 0 1 v0.length false), (1, Iz v1), (2, Iz v2), (3, Iz v3), (8, AV.bool true)] [(0, .grow (List.map (AV.int .i64) v0))] 1 (by simp) (by simp) ?_
 refine SQ [] [none] fun _ _ g r => ?_
 try simp
 and_intros <;> first | exact g _ (by kernel_rfl) | refine r _ _ _ ?_ | omega | (simp [maxLen] <;> omega)
 refine WK [(0, AV.slc 0 0 1 v0.length false), (1, Iz v1), (2, Iz v2), (3, Iz v3), (8, AV.bool true), (9, AV.bool true)] [(0, .grow (List.map (AV.int .i64) v0))] 1 (by simp) (by simp) ?_
 refine AW.block ?_
 refine AW.loopF (α := Unit) (fun n _ => slices_pdqsortOrdered_int.L1 k v0 v1 v2 v3 n = some v4) (fun _ => [(0, AV.slc 0 0 1 v0.length false), (1, Iz v1), (2, Iz v2), (3, Iz v3), (8, AV.bool true), (9, AV.bool true)]) (fun _ => [(0, .grow (List.map (AV.int .i64) v0))]) 1 k (()) hF (by simp) (by simp) (by simp) ?_
 rintro (_|n1) ⟨⟩ hF K111 hK111
 ·try dsimp only at hF
  rw [slices_pdqsortOrdered_int.L1] at hF; cases hF
 try dsimp only at hF
 rw [slices_pdqsortOrdered_int.L1] at hF
 refine AW.block ?_
 refine SQ [] [none, none, none, none] fun _ _ g r => ?_
 try simp
 and_intros <;> first | exact g _ (by kernel_rfl) | refine r _ _ _ ?_ | omega | (simp [maxLen] <;> omega)
 refine WK [(0, AV.slc 0 0 1 v0.length false), (1, Iz v1), (2, Iz v2), (3, Iz v3), (8, AV.bool true), (9, AV.bool true), (10, Iz (IntKind.wrap .i64 (v2 - v1)))] [(0, .grow (List.map (AV.int .i64) v0))] 1 (by simp) (by simp) ?_
 refine AW.seq fun K115 hK115 => ?_
 refine SQ [] [none, none] fun _ _ g r => ?_
 try simp
 and_intros <;> first | exact g _ (by kernel_rfl) | refine r _ _ _ ?_ | omega | (simp [maxLen] <;> omega)
 refine WK [(0, AV.slc 0 0 1 v0.length false), (1, Iz v1), (2, Iz v2), (3, Iz v3), (8, AV.bool true), (9, AV.bool true), (10, Iz (IntKind.wrap .i64 (v2 - v1))), (23, AV.bool (decide (IntKind.wrap .i64 (v2 - v1) ≤ 12)))] [(0, .grow (List.map (AV.int .i64) v0))] 1 (by simp) (by simp) ?_
 by_cases h1 : IntKind.wrap .i64 (v2 - v1) ≤ 12
 ·replace hF := ite_t h1 hF
  have h1_ := h1
  try simp at h1_
  refine CT (by simp [h1, h1_] <;> omega) ?_
  refine SQ [] [none, none, none, none] fun _ _ g r => ?_
  try simp [h1, h1_]
  and_intros
  try any_goals first | omega | (simp [h1, h1_, maxLen] <;> omega)
  obtain ⟨v5, h2, hF⟩ := bnd1_elim hF
  obtain ⟨h3, hF⟩ := chk_elim hF
  refine aCall_l (w_slices_insertionSortOrdered_int k _ _ _ _ h2) (by simp) [0] [] [0] rfl (.cons (.same (by simp [h1, h1_])) (.cons (.same (by simp [h1, h1_])) (.cons (.same (by simp [h1, h1_])) .nil))) (by simp [h1, h1_]) (by decide) (by simp) (by simp) (.inl rfl) (by simp) (by simp) ?_
  have F1 := And.intro h1 (And.intro h1_ h3)
  try simp [F1]
  and_intros <;> first | exact g _ (by kernel_rfl) | refine r _ _ _ ?_ | omega | (simp [maxLen, F1] <;> omega)
  refine WK [] [(0, .grow (List.map (AV.int .i64) v5))] 1 (by simp [F1]) (by simp [F1]) ?_
  simp only [Option.some.injEq] at hF
  subst hF
  refine AW.ret (hQ _ _ _ ?_ (matchO_0 ?_)).1
  ·simp [Try.f78, F1]
  ·simp [F1]
 ·replace hF := ite_f h1 hF
  have h1_ := h1
  try simp at h1_
  refine CF (by simp [h1, h1_] <;> omega) ?_
  refine AW.skip ?_
  refine hK115 _ _ _ ?_
  refine AW.seq fun K120 hK120 => ?_
  refine SQ [] [none, none] fun _ _ g r => ?_
  try simp [h1, h1_]
  and_intros <;> first | exact g _ (by kernel_rfl) | refine r _ _ _ ?_ | omega | (simp [h1, h1_, maxLen] <;> omega)
  refine WK [(0, AV.slc 0 0 1 v0.length false), (1, Iz v1), (2, Iz v2), (3, Iz v3), (8, AV.bool true), (9, AV.bool true), (10, Iz (IntKind.wrap .i64 (v2 - v1))), (29, AV.bool (v3 == 0))] [(0, .grow (List.map (AV.int .i64) v0))] 1 (by simp [h1, h1_]) (by simp [h1, h1_]) ?_
  by_cases h4 : v3 = 0
  ·replace hF := ite_t h4 hF
   cases hF
  ·replace hF := ite_f h4 hF
   have h4_ := eqb_f h4
   have h4__ := neb_t h4
   have F2 := And.intro h1 (And.intro h1_ (And.intro h4 (And.intro h4_ h4__)))
   refine CF (by simp [F2] <;> omega) ?_
   refine AW.skip ?_
   refine hK120 _ _ _ ?_
   refine AW.seq fun K124 hK124 => ?_
   refine SQ [] [none, none] fun _ _ g r => ?_
   try simp [F2]
   and_intros <;> first | exact g _ (by kernel_rfl) | refine r _ _ _ ?_ | omega | (simp [maxLen, F2] <;> omega)
   refine WK [(0, AV.slc 0 0 1 v0.length false), (1, Iz v1), (2, Iz v2), (3, Iz v3), (8, AV.bool true), (9, AV.bool true), (10, Iz (IntKind.wrap .i64 (v2 - v1))), (35, AV.bool false)] [(0, .grow (List.map (AV.int .i64) v0))] 1 (by simp [F2]) (by simp [F2]) ?_
   refine CF (by simp [F2]) ?_
   cases hF
theorem w_slices_Sort_int_int (k : Nat) (v0 : (List Int)) (v1 : (List Int)) (hF : slices_Sort_int_int k v0 = some v1) :
  FCall Try.prog 71 [AV.slc 0 0 1 v0.length false] [.grow (List.map (AV.int .i64) v0)] (AV.tup []) [some (.grow (List.map (AV.int .i64) v1))] := by
 unfold slices_Sort_int_int at hF
 refine EN Try.func71 ?_
 intro c0 w0 Q h0 hQ
 refine WK [(0, AV.slc 0 0 1 v0.length false)] [(0, .grow (List.map (AV.int .i64) v0))] 1 (by simp) (by simp) ?_
 refine SQ [] [none, none, none] fun _ _ g r => ?_
 try simp
 and_intros <;> first | exact g _ (by kernel_rfl) | refine r _ _ _ ?_ | omega | (simp [maxLen] <;> omega)
 refine WK [(0, AV.slc 0 0 1 v0.length false), (2, Iz (v0.length : Int))] [(0, .grow (List.map (AV.int .i64) v0))] 1 (by simp) (by simp) ?_
 refine RG [] [none, none, none, none, none, none] fun _ _ g r => ?_
 try simp
 and_intros
 try any_goals first | omega | (simp [maxLen] <;> omega)
 obtain ⟨v2, h1, hF⟩ := bnd1_elim hF
 refine AC (w_math_bits_Len k _ _ h1) (.cons (.same (by simp)) .nil) ?_
 try simp
 and_intros
 try any_goals first | omega | (simp [maxLen] <;> omega)
 obtain ⟨v3, h2, hF⟩ := bnd1_elim hF
 obtain ⟨h3, hF⟩ := chk_elim hF
 refine aCall_l (w_slices_pdqsortOrdered_int k _ _ _ _ _ h2) (by simp) [0] [] [0] rfl (.cons (.same (by simp)) (.cons (.same (by simp)) (.cons (.same (by simp)) (.cons (.same (by simp)) .nil)))) (by simp) (by decide) (by simp) (by simp) (.inl rfl) (by simp) (by simp) ?_
 try simp [h3]
 and_intros <;> first | exact g _ (by kernel_rfl) | refine r _ _ _ ?_ | omega | (simp [h3, maxLen] <;> omega)
 simp only [Option.some.injEq] at hF
 subst hF
 refine (hQ _ _ _ ?_ (matchO_0 ?_)).2
 ·simp [Try.f71, h3]
 ·simp [h3]
theorem w_graph_Out (k : Nat) (v0 : Int) (v1 : (List api_Edge)) (v2 : (List Int)) (v3 : Int) (v4 : (List Int)) (hF : graph_Out k v0 v1 v2 v3 = some v4) :
  FCall Try.prog 47 [AV.agg [AV.int .i64 v0, AV.lst false false (List.map api_Edge.av v1), AV.lst false false (List.map (AV.int .i64) v2)], AV.int .i64 v3] [] (AV.lst false false (List.map (AV.int .i64) v4)) [] := by
 unfold graph_Out at hF
 refine EN Try.func47 ?_
 intro c0 w0 Q h0 hQ
 refine WK [(0, AV.agg [Iz v0, AV.lst false false (List.map api_Edge.av v1), Lz v2]), (1, Iz v3)] [] 0 (by simp) (by simp) ?_
 refine SQ [] [none, none] fun _ _ g r => ?_
 try simp
 and_intros <;> first | exact g _ (by kernel_rfl) | refine r _ _ _ ?_ | omega | (simp [maxLen] <;> omega)
 refine WK [(1, Iz v3), (2, AV.ptr 0 0)] [(0, .cells [Iz v0, AV.lst false false (List.map api_Edge.av v1), Lz v2])] 1 (by simp) (by simp) ?_
 refine SQ [] [none] fun _ _ g r => ?_
 try simp
 and_intros <;> first | exact g _ (by kernel_rfl) | refine r _ _ _ ?_ | omega | (simp [maxLen] <;> omega)
 refine WK [(1, Iz v3), (2, AV.ptr 0 0), (5, AV.lst true true (List.map (AV.int .i64) ([] : List Int)))] [(0, .cells [Iz v0, AV.lst false false (List.map api_Edge.av v1), Lz v2])] 1 (by simp) (by simp) ?_
 refine AW.seq fun K134 hK134 => ?_
 refine SQ [] [none, none, none, none] fun _ _ g r => ?_
 try simp
 and_intros <;> first | exact g _ (by kernel_rfl) | refine r _ _ _ ?_ | omega | (simp [maxLen] <;> omega)
 refine WK [(1, Iz v3), (5, AV.lst true true (List.map (AV.int .i64) ([] : List Int))), (9, AV.lst false false (List.map api_Edge.av v1)), (10, Iz (v1.length : Int)), (11, Iz 0)] [] 1 (by simp) (by simp) ?_
 refine AW.block ?_
 refine AW.own' 5 1 true (by simp) (by decide) ?_
 refine RM h0 [(0, 1)] [(1, Iz v3), (5, AV.slc 0 0 1 (([] : List Int).length) false), (9, AV.lst false false (List.map api_Edge.av v1)), (10, Iz (v1.length : Int)), (11, Iz 0)] [(0, .grow (List.map (AV.int .i64) ([] : List Int)))] 1 (by simp) (by simp) ?_
 refine AW.loopF (α := (Int × (List Int))) (fun n (v5, v6) => graph_Out.L1 k v1 v3 n v5 v6 = some v4) (fun (v5, v6) => [(1, Iz v3), (5, AV.slc 0 0 1 v6.length false), (9, AV.lst false false (List.map api_Edge.av v1)), (10, Iz (v1.length : Int)), (11, Iz v5)]) (fun (v5, v6) => [(0, .grow (List.map (AV.int .i64) v6))]) 1 k ((0, ([] : List Int))) hF (by simp) (by simp) (by simp) ?_
 rintro (_|n1) ⟨v5, v6⟩ hF K166 hK166
 ·try dsimp only at hF
  rw [graph_Out.L1] at hF; cases hF
 try dsimp only at hF
 rw [graph_Out.L1] at hF
 refine SQ [] [none] fun _ _ g r => ?_
 try simp
 and_intros <;> first | exact g _ (by kernel_rfl) | refine r _ _ _ ?_ | omega | (simp [maxLen] <;> omega)
 refine WK [(1, Iz v3), (5, AV.slc 0 0 1 v6.length false), (9, AV.lst false false (List.map api_Edge.av v1)), (10, Iz (v1.length : Int)), (11, Iz v5), (12, AV.bool (decide (v5 < (v1.length : Int))))] [(0, .grow (List.map (AV.int .i64) v6))] 1 (by simp) (by simp) ?_
 refine AW.seq fun K168 hK168 => ?_
 by_cases h1 : v5 < (v1.length : Int)
 ·replace hF := ite_t h1 hF
  have h1_ := h1
  try simp at h1_
  refine CT (by simp [h1, h1_] <;> omega) ?_
  refine AW.skip ?_
  refine hK168 _ _ _ ?_
  refine AW.midF (α := (List Int)) (fun v7 => graph_Out.J2 k v5 (fun v5_ v6_ => graph_Out.L1 k v1 v3 n1 v5_ v6_) v7 = some v4) (fun v7 => [(1, Iz v3), (5, AV.slc 0 0 1 v7.length false), (9, AV.lst false false (List.map api_Edge.av v1)), (10, Iz (v1.length : Int)), (11, Iz v5)]) (fun v7 => [(0, .grow (List.map (AV.int .i64) v7))]) 1 (fun K173 hK173 => ?_) ?_
  ·refine AW.block ?_
   refine SQ [] [none, none, none, none] fun _ _ g r => ?_
   obtain ⟨v8, h2, h3, h4, hF⟩ := idx_elim hF
   have h4_ := get_of h4
   try simp at h4_
   have h3_ := h3
   try simp at h3_
   have F1 := And.intro h1 (And.intro h1_ (And.intro h2 (And.intro h3 (And.intro h4 (And.intro h4_ h3_)))))
   try simp [F1]
   and_intros <;> first | exact g _ (by kernel_rfl) | refine r _ _ _ ?_ | omega | (simp [maxLen, F1] <;> omega)
   refine WK [(1, Iz v3), (5, AV.slc 0 0 1 v6.length false), (7, AV.ptr 1 0), (9, AV.lst false false (List.map api_Edge.av v1)), (10, Iz (v1.length : Int)), (11, Iz v5)] [(0, .grow (List.map (AV.int .i64) v6)), (1, .cells [Iz v8.From, Iz v8.To, Iz v8.Level])] 2 (by simp [F1]) (by simp [F1]) ?_
   refine SQ [] [none, none, none, none] fun _ _ g r => ?_
   try simp [F1]
   and_intros <;> first | exact g _ (by kernel_rfl) | refine r _ _ _ ?_ | omega | (simp [maxLen, F1] <;> omega)
   refine WK [(1, Iz v3), (5, AV.slc 0 0 1 v6.length false), (7, AV.ptr 1 0), (9, AV.lst false false (List.map api_Edge.av v1)), (10, Iz (v1.length : Int)), (11, Iz v5), (18, AV.bool (v8.From == v3))] [(0, .grow (List.map (AV.int .i64) v6)), (1, .cells [Iz v8.From, Iz v8.To, Iz v8.Level])] 2 (by simp [F1]) (by simp [F1]) ?_
   by_cases h5 : v8.From = v3
   ·replace hF := ite_t h5 hF
    have h5q : v8.From = v3 := h5
    have h5_ := eqb_t h5q
    have h5__ := neb_f h5q
    refine CT (by simp [F1, h5_, h5__] <;> omega) ?_
    refine RG [] [none, none, none, none, none, none] fun _ _ g r => ?_
    obtain ⟨h6, hF⟩ := chk_elim hF
    have h6_ := h6
    try simp at h6_
    have F2 := And.intro F1 (And.intro h5_ (And.intro h5__ h6))
    try simp [F2]
    and_intros <;> first | exact g _ (by kernel_rfl) | refine r _ _ _ ?_ | omega | (simp [maxLen, F2] <;> omega)
    refine hK173 _ _ _ ?_
    refine RN h0 [(0, 2)] [(1, Iz v3), (5, AV.slc 0 0 1 ((v6 ++ ([v8.To] : List Int)).length) false), (9, AV.lst false false (List.map api_Edge.av v1)), (10, Iz (v1.length : Int)), (11, Iz v5)] [(0, .grow (List.map (AV.int .i64) (v6 ++ ([v8.To] : List Int))))] 1 (by simp [F2] <;> omega) (by simp [F2]) ?_
    exact JN (v6 ++ ([v8.To] : List Int)) hF (by simp [F2]) (by simp [F2])
   ·replace hF := ite_f h5 hF
    have h5_ := eqb_f h5
    have h5__ := neb_t h5
    have F3 := And.intro F1 (And.intro h5 (And.intro h5_ h5__))
    refine CF (by simp [F3] <;> omega) ?_
    refine AW.skip ?_
    refine hK173 _ _ _ ?_
    refine RN h0 [(0, 0)] [(1, Iz v3), (5, AV.slc 0 0 1 v6.length false), (9, AV.lst false false (List.map api_Edge.av v1)), (10, Iz (v1.length : Int)), (11, Iz v5)] [(0, .grow (List.map (AV.int .i64) v6))] 1 (by simp [F3]) (by simp [F3]) ?_
    exact JN (v6) hF (by simp [F3]) (by simp [F3])
  ·rintro v7 hF
   try dsimp only at hF
   unfold graph_Out.J2 at hF
   refine RG [] [none, none] fun _ _ g r => ?_
   try simp [h1, h1_]
   and_intros <;> first | exact g _ (by kernel_rfl) | refine r _ _ _ ?_ | omega | (simp [h1, h1_, maxLen] <;> omega)
   refine hK166 _ _ _ ?_
   exact NX (k' := n1) ((IntKind.wrap .i64 (v5 + 1), v7)) hF (by simp [h1, h1_]) (by simp [h1, h1_])
 ·replace hF := ite_f h1 hF
  have h1_ := h1
  try simp at h1_
  refine CF (by simp [h1, h1_] <;> omega) ?_
  refine AW.exit ?_
  try simp
  refine hK134 _ _ _ ?_
  refine SQ [] [none, none] fun _ _ g r => ?_
  try simp [h1, h1_]
  and_intros
  try any_goals first | omega | (simp [h1, h1_, maxLen] <;> omega)
  obtain ⟨v9, h7, hF⟩ := bnd1_elim hF
  obtain ⟨h8, hF⟩ := chk_elim hF
  refine aCall_l (w_slices_Sort_int_int k _ _ h7) (by simp) [0] [] [0] rfl (.cons (.same (by simp [h1, h1_])) .nil) (by simp [h1, h1_]) (by decide) (by simp) (by simp) (.inl rfl) (by simp) (by simp) ?_
  have F4 := And.intro h1 (And.intro h1_ h8)
  try simp [F4]
  and_intros <;> first | exact g _ (by kernel_rfl) | refine r _ _ _ ?_ | omega | (simp [maxLen, F4] <;> omega)
  refine WK [(5, AV.slc 0 0 1 v9.length false)] [(0, .grow (List.map (AV.int .i64) v9))] 1 (by simp [F4]) (by simp [F4]) ?_
  refine SQ [] [none, none] fun _ _ g r => ?_
  try simp [F4]
  and_intros <;> first | exact g _ (by kernel_rfl) | refine r _ _ _ ?_ | omega | (simp [maxLen, F4] <;> omega)
  refine WK [(4, AV.slc 0 0 1 v9.length false)] [(0, .grow (List.map (AV.int .i64) v9))] 1 (by simp [F4]) (by simp [F4]) ?_
  refine WK [(4, AV.slc 0 0 1 v9.length false)] [(0, .grow (List.map (AV.int .i64) v9))] 1 (by simp [F4]) (by simp [F4]) ?_
  refine AW.frz 0 (o := .grow (List.map (AV.int .i64) v9)) (by simp [F4]) rfl [(4, Lz v9)] [] ⟨(.l (by simp) (by simp) (by simp) (by simp)), trivial⟩ trivial ?_
  simp only [Option.some.injEq] at hF
  subst hF
  refine AW.ret (hQ _ _ _ ?_ (matchO_0 ?_)).1
  ·simp [Try.f47, F4]
  ·simp [F4]
theorem w_distance_All_2 (k : Nat) (v0 : Int) (v1 : (List Int)) (v2 : Bool) (hF : distance_All_2 k v0 v1 = some v2) :
  FCall Try.prog 65 [AV.int .i64 v0, AV.ptr 0 0] [.cells [AV.slc 1 0 1 v1.length false], .cells (List.map (AV.int .i64) v1)] (AV.bool v2) [some (.cells [AV.slc 1 0 1 v1.length false]), some (.cells (List.map (AV.int .i64) v1))] := by
 unfold distance_All_2 at hF
 refine EN Try.func65 ?_
 intro c0 w0 Q h0 hQ
 refine WK [(0, Iz v0), (1, AV.ptr 0 0)] [(0, .cells [AV.slc 1 0 1 v1.length false]), (1, .cells (List.map (AV.int .i64) v1))] 2 (by simp) (by simp) ?_
 refine SQ [] [none] fun _ _ g r => ?_
 try simp
 and_intros <;> first | exact g _ (by kernel_rfl) | refine r _ _ _ ?_ | omega | (simp [maxLen] <;> omega)
 refine WK [(0, Iz v0), (1, AV.ptr 0 0)] [(0, .cells [AV.slc 1 0 1 v1.length false]), (1, .cells (List.map (AV.int .i64) v1))] 2 (by simp) (by simp) ?_
 refine SQ [] [none, none, none, none, none, none, none, some (10, false), some (10, false), some (10, false), some (10, false), some (10, false), none, none] fun _ _ g r => ?_
 try simp
 and_intros
 try any_goals first | omega | (simp [maxLen] <;> omega)
 obtain ⟨v3, h1, hF⟩ := bnd1_elim hF
 refine AC (w_lists_In k _ _ _ _ h1) (.cons (.same (by simp)) (.cons (.same (by simp)) (.cons (.same (by simp)) .nil))) ?_
 by_cases h2 : (!v3) = true
 ·replace hF := ite_t h2 hF
  have h2_ := h2
  try simp at h2_
  try simp [h2, h2_]
  and_intros <;> first | exact g _ (by kernel_rfl) | refine r _ _ _ ?_ | omega | (simp [h2, h2_, maxLen] <;> omega)
  refine WK [(3, AV.bool true)] [(0, .cells [AV.slc 1 0 1 v1.length false]), (1, .cells (List.map (AV.int .i64) v1))] 2 (by simp [h2, h2_]) (by simp [h2, h2_]) ?_
  simp only [Option.some.injEq] at hF
  subst hF
  refine AW.ret (hQ _ _ _ ?_ (matchO_0 ?_)).1
  ·simp [Try.f65, h2, h2_]
  ·simp [h2, h2_]
 ·replace hF := ite_f h2 hF
  have h2_ := h2
  try simp at h2_
  obtain ⟨⟨h3, h4⟩, hF⟩ := chk_elim hF
  have h4_ := ne_of_lt h4
  obtain ⟨v4, h5, h6, h7, hF⟩ := idx_elim hF
  have h7_ := get_of h7
  try simp at h7_
  have h6_ := h6
  try simp at h6_
  have F1 := And.intro h2 (And.intro h2_ (And.intro h3 (And.intro h4 (And.intro h4_ (And.intro h5 (And.intro h6 (And.intro h7 (And.intro h7_ h6_))))))))
  try simp [F1]
  and_intros <;> first | exact g _ (by kernel_rfl) | refine r _ _ _ ?_ | omega | (simp [maxLen, F1] <;> omega)
  refine WK [(3, AV.bool (decide (0 ≤ v4)))] [(0, .cells [AV.slc 1 0 1 v1.length false]), (1, .cells (List.map (AV.int .i64) v1))] 2 (by simp [F1]) (by simp [F1]) ?_
  simp only [Option.some.injEq] at hF
  subst hF
  refine AW.ret (hQ _ _ _ ?_ (matchO_0 ?_)).1
  ·simp [Try.f65, F1]
  ·simp [F1]
theorem w_slices_IndexFunc_int_int_All_2 (k : Nat) (v0 : (List Int)) (v1 : (List Int)) (v2 : Int) (hF : slices_IndexFunc_int_int_All_2 k v0 v1 = some v2) :
  FCall Try.prog 70 [AV.lst false false (List.map (AV.int .i64) v0), AV.fn 65 [AV.ptr 0 0]] [.cells [AV.slc 1 0 1 v1.length false], .cells (List.map (AV.int .i64) v1)] (AV.int .i64 v2) [some (.cells [AV.slc 1 0 1 v1.length false]), some (.cells (List.map (AV.int .i64) v1))] := by
 unfold slices_IndexFunc_int_int_All_2 at hF
 refine EN Try.func70 ?_
 intro c0 w0 Q h0 hQ
 refine WK [(0, Lz v0), (1, AV.fn 65 [AV.ptr 0 0])] [(0, .cells [AV.slc 1 0 1 v1.length false]), (1, .cells (List.map (AV.int .i64) v1))] 2 (by simp) (by simp) ?_
 refine SQ [] [none] fun _ _ g r => ?_
 try simp
 and_intros <;> first | exact g _ (by kernel_rfl) | refine r _ _ _ ?_ | omega | (simp [maxLen] <;> omega)
 refine WK [(0, Lz v0), (1, AV.fn 65 [AV.ptr 0 0])] [(0, .cells [AV.slc 1 0 1 v1.length false]), (1, .cells (List.map (AV.int .i64) v1))] 2 (by simp) (by simp) ?_
 refine AW.seq fun K131 hK131 => ?_
 refine SQ [] [none, none, none] fun _ _ g r => ?_
 try simp
 and_intros <;> first | exact g _ (by kernel_rfl) | refine r _ _ _ ?_ | omega | (simp [maxLen] <;> omega)
 refine WK [(0, Lz v0), (1, AV.fn 65 [AV.ptr 0 0]), (7, Iz (v0.length : Int)), (8, Iz 0)] [(0, .cells [AV.slc 1 0 1 v1.length false]), (1, .cells (List.map (AV.int .i64) v1))] 2 (by simp) (by simp) ?_
 refine AW.block ?_
 refine AW.loopF (α := Int) (fun n v3 => slices_IndexFunc_int_int_All_2.L1 k v0 v1 n v3 = some v2) (fun v3 => [(0, Lz v0), (1, AV.fn 65 [AV.ptr 0 0]), (7, Iz (v0.length : Int)), (8, Iz v3)]) (fun v3 => [(0, .cells [AV.slc 1 0 1 v1.length false]), (1, .cells (List.map (AV.int .i64) v1))]) 2 k (0) hF (by simp) (by simp) (by simp) ?_
 rintro (_|n1) v3 hF K163 hK163
 ·try dsimp only at hF
  rw [slices_IndexFunc_int_int_All_2.L1] at hF; cases hF
 try dsimp only at hF
 rw [slices_IndexFunc_int_int_All_2.L1] at hF
 refine SQ [] [none] fun _ _ g r => ?_
 try simp
 and_intros <;> first | exact g _ (by kernel_rfl) | refine r _ _ _ ?_ | omega | (simp [maxLen] <;> omega)
 refine WK [(0, Lz v0), (1, AV.fn 65 [AV.ptr 0 0]), (7, Iz (v0.length : Int)), (8, Iz v3), (9, AV.bool (decide (v3 < (v0.length : Int))))] [(0, .cells [AV.slc 1 0 1 v1.length false]), (1, .cells (List.map (AV.int .i64) v1))] 2 (by simp) (by simp) ?_
 refine AW.seq fun K165 hK165 => ?_
 by_cases h1 : v3 < (v0.length : Int)
 ·replace hF := ite_t h1 hF
  have h1_ := h1
  try simp at h1_
  refine CT (by simp [h1, h1_] <;> omega) ?_
  refine AW.skip ?_
  refine hK165 _ _ _ ?_
  refine AW.seq fun K169 hK169 => ?_
  refine AW.block ?_
  refine SQ [] [none, none] fun _ _ g r => ?_
  try simp [h1, h1_]
  and_intros <;> first | exact g _ (by kernel_rfl) | refine r _ _ _ ?_ | omega | (simp [h1, h1_, maxLen] <;> omega)
  refine WK [(0, Lz v0), (1, AV.fn 65 [AV.ptr 0 0]), (5, Iz v3), (7, Iz (v0.length : Int)), (8, Iz v3)] [(0, .cells [AV.slc 1 0 1 v1.length false]), (1, .cells (List.map (AV.int .i64) v1))] 2 (by simp [h1, h1_]) (by simp [h1, h1_]) ?_
  refine SQ [] [none, none, none, none, none, none] fun _ _ g r => ?_
  obtain ⟨v4, h2, h3, h4, hF⟩ := idx_elim hF
  have h4_ := get_of h4
  try simp at h4_
  have h3_ := h3
  try simp at h3_
  have F1 := And.intro h1 (And.intro h1_ (And.intro h2 (And.intro h3 (And.intro h4 (And.intro h4_ h3_)))))
  try simp [F1]
  and_intros
  try any_goals first | omega | (simp [maxLen, F1] <;> omega)
  obtain ⟨v5, h5, hF⟩ := bnd1_elim hF
  refine aCall_l (w_distance_All_2 k _ _ _ h5) (by simp) [0, 1] [] [] rfl (.cons (.same (by simp [F1])) (.cons (.same (by simp [F1])) .nil)) (by simp [F1]) (by decide) (by simp) (by simp) (.inl rfl) (by simp) (by simp) ?_
  try simp [F1]
  and_intros <;> first | exact g _ (by kernel_rfl) | refine r _ _ _ ?_ | omega | (simp [maxLen, F1] <;> omega)
  refine WK [(0, Lz v0), (1, AV.fn 65 [AV.ptr 0 0]), (5, Iz v3), (7, Iz (v0.length : Int)), (8, Iz v3), (16, AV.bool v5)] [(0, .cells [AV.slc 1 0 1 v1.length false]), (1, .cells (List.map (AV.int .i64) v1))] 2 (by simp [F1]) (by simp [F1]) ?_
  by_cases h6 : v5 = true
  ·replace hF := ite_t h6 hF
   have h6_ := h6
   try simp at h6_
   have F2 := And.intro F1 (And.intro h6 h6_)
   refine CT (by simp [F2] <;> omega) ?_
   refine SQ [] [none, none] fun _ _ g r => ?_
   try simp [F2]
   and_intros <;> first | exact g _ (by kernel_rfl) | refine r _ _ _ ?_ | omega | (simp [maxLen, F2] <;> omega)
   refine WK [(4, Iz v3)] [(0, .cells [AV.slc 1 0 1 v1.length false]), (1, .cells (List.map (AV.int .i64) v1))] 2 (by simp [F2]) (by simp [F2]) ?_
   simp only [Option.some.injEq] at hF
   subst hF
   refine AW.ret (hQ _ _ _ ?_ (matchO_0 ?_)).1
   ·simp [Try.f70, F2]
   ·simp [F2]
  ·replace hF := ite_f h6 hF
   have h6_ := h6
   try simp at h6_
   have F3 := And.intro F1 (And.intro h6 h6_)
   refine CF (by simp [F3] <;> omega) ?_
   refine AW.skip ?_
   refine hK169 _ _ _ ?_
   refine RG [] [none, none] fun _ _ g r => ?_
   try simp [F3]
   and_intros <;> first | exact g _ (by kernel_rfl) | refine r _ _ _ ?_ | omega | (simp [maxLen, F3] <;> omega)
   refine hK163 _ _ _ ?_
   exact NX (k' := n1) (IntKind.wrap .i64 (v3 + 1)) hF (by simp [F3]) (by simp [F3])
 ·replace hF := ite_f h1 hF
  have h1_ := h1
  try simp at h1_
  refine CF (by simp [h1, h1_] <;> omega) ?_
  refine AW.exit ?_
  try simp
  refine hK131 _ _ _ ?_
  refine SQ [] [none] fun _ _ g r => ?_
  try simp [h1, h1_]
  and_intros <;> first | exact g _ (by kernel_rfl) | refine r _ _ _ ?_ | omega | (simp [h1, h1_, maxLen] <;> omega)
  refine WK [(4, Iz (-1))] [(0, .cells [AV.slc 1 0 1 v1.length false]), (1, .cells (List.map (AV.int .i64) v1))] 2 (by simp [h1, h1_]) (by simp [h1, h1_]) ?_
  simp only [Option.some.injEq] at hF
  subst hF
  refine AW.ret (hQ _ _ _ ?_ (matchO_0 ?_)).1
  ·simp [Try.f70, h1, h1_]
  ·simp [h1, h1_]
theorem w_slices_DeleteFunc_int_int_All_2 (k : Nat) (v0 : (List Int)) (v1 : (List Int)) (v2 : (List Int)) (hF : slices_DeleteFunc_int_int_All_2 k v0 v1 = some v2) :
  FCall Try.prog 64 [AV.slc 0 0 1 v0.length false, AV.fn 65 [AV.ptr 1 0]] [.grow (List.map (AV.int .i64) v0), .cells [AV.slc 2 0 1 v1.length false], .cells (List.map (AV.int .i64) v1)] (AV.lst false false (List.map (AV.int .i64) v2)) [none, some (.cells [AV.slc 2 0 1 v1.length false]), some (.cells (List.map (AV.int .i64) v1))] := by
 unfold slices_DeleteFunc_int_int_All_2 at hF
 refine EN Try.func64 ?_
 intro c0 w0 Q h0 hQ
 refine WK [(0, AV.slc 0 0 1 v0.length false), (1, AV.fn 65 [AV.ptr 1 0])] [(0, .grow (List.map (AV.int .i64) v0)), (1, .cells [AV.slc 2 0 1 v1.length false]), (2, .cells (List.map (AV.int .i64) v1))] 3 (by simp) (by simp) ?_
 refine SQ [] [none] fun _ _ g r => ?_
 try simp
 and_intros <;> first | exact g _ (by kernel_rfl) | refine r _ _ _ ?_ | omega | (simp [maxLen] <;> omega)
 refine WK [(0, AV.slc 0 0 1 v0.length false), (1, AV.fn 65 [AV.ptr 1 0])] [(0, .grow (List.map (AV.int .i64) v0)), (1, .cells [AV.slc 2 0 1 v1.length false]), (2, .cells (List.map (AV.int .i64) v1))] 3 (by simp) (by simp) ?_
 refine SQ [] [none, none, none, none] fun _ _ g r => ?_
 try simp
 and_intros
 try any_goals first | omega | (simp [maxLen] <;> omega)
 obtain ⟨v3, h1, hF⟩ := bnd1_elim hF
 refine aCall_l (w_slices_IndexFunc_int_int_All_2 k _ _ _ h1) (by simp) [1, 2] [0] [] rfl (.cons (Coe.l (o := .grow (List.map (AV.int .i64) v0)) (by simp) rfl (by simp) (by simp [noIdsL]) (by simp) (by simp)) (.cons (.same (by simp)) .nil)) (by simp) (by decide) (by simp) (by simp) (.inr ⟨by simp, by simp⟩) (by simp) (by simp) ?_
 try simp
 and_intros <;> first | exact g _ (by kernel_rfl) | refine r _ _ _ ?_ | omega | (simp [maxLen] <;> omega)
 refine WK [(0, AV.slc 0 0 1 v0.length false), (1, AV.fn 65 [AV.ptr 1 0]), (5, Iz v3)] [(0, .grow (List.map (AV.int .i64) v0)), (1, .cells [AV.slc 2 0 1 v1.length false]), (2, .cells (List.map (AV.int .i64) v1))] 3 (by simp) (by simp) ?_
 refine AW.seq fun K123 hK123 => ?_
 refine SQ [] [none, none] fun _ _ g r => ?_
 try simp
 and_intros <;> first | exact g _ (by kernel_rfl) | refine r _ _ _ ?_ | omega | (simp [maxLen] <;> omega)
 refine WK [(0, AV.slc 0 0 1 v0.length false), (1, AV.fn 65 [AV.ptr 1 0]), (5, Iz v3), (12, AV.bool (v3 == (-1)))] [(0, .grow (List.map (AV.int .i64) v0)), (1, .cells [AV.slc 2 0 1 v1.length false]), (2, .cells (List.map (AV.int .i64) v1))] 3 (by simp) (by simp) ?_
 by_cases h2 : v3 = (-1)
 ·replace hF := ite_t h2 hF
  have h2q : v3 = (-1) := h2
  have h2_ := eqb_t h2q
  have h2__ := neb_f h2q
  have F1 := And.intro h2_ (And.intro h2__ h2q)
  refine CT (by simp [F1] <;> omega) ?_
  refine SQ [] [none, none] fun _ _ g r => ?_
  try simp [F1]
  and_intros <;> first | exact g _ (by kernel_rfl) | refine r _ _ _ ?_ | omega | (simp [maxLen, F1] <;> omega)
  refine WK [(4, AV.slc 0 0 1 v0.length false)] [(0, .grow (List.map (AV.int .i64) v0)), (1, .cells [AV.slc 2 0 1 v1.length false]), (2, .cells (List.map (AV.int .i64) v1))] 3 (by simp [F1]) (by simp [F1]) ?_
  refine WK [(4, AV.slc 0 0 1 v0.length false)] [(0, .grow (List.map (AV.int .i64) v0)), (1, .cells [AV.slc 2 0 1 v1.length false]), (2, .cells (List.map (AV.int .i64) v1))] 3 (by simp [F1]) (by simp [F1]) ?_
  refine AW.frz 0 (o := .grow (List.map (AV.int .i64) v0)) (by simp [F1]) rfl [(4, Lz v0)] [] ⟨(.l (by simp) (by simp) (by simp) (by simp)), trivial⟩ trivial ?_
  simp only [Option.some.injEq] at hF
  subst hF
  refine AW.ret (hQ _ _ _ ?_ (matchO_0 ?_)).1
  ·simp [Try.f64, F1]
  ·simp [F1]
 ·replace hF := ite_f h2 hF
  have h2_ := eqb_f h2
  have h2__ := neb_t h2
  have F2 := And.intro h2 (And.intro h2_ h2__)
  refine CF (by simp [F2] <;> omega) ?_
  refine AW.skip ?_
  refine hK123 _ _ _ ?_
  refine AW.seq fun K180 hK180 => ?_
  refine SQ [] [none, none, none] fun _ _ g r => ?_
  try simp [F2]
  and_intros <;> first | exact g _ (by kernel_rfl) | refine r _ _ _ ?_ | omega | (simp [maxLen, F2] <;> omega)
  refine WK [(0, AV.slc 0 0 1 v0.length false), (1, AV.fn 65 [AV.ptr 1 0]), (5, Iz v3), (6, Iz (IntKind.wrap .i64 (v3 + 1)))] [(0, .grow (List.map (AV.int .i64) v0)), (1, .cells [AV.slc 2 0 1 v1.length false]), (2, .cells (List.map (AV.int .i64) v1))] 3 (by simp [F2]) (by simp [F2]) ?_
  refine AW.block ?_
  refine AW.loopF (α := (Int × Int × (List Int))) (fun n (v4, v5, v6) => slices_DeleteFunc_int_int_All_2.L1 k v1 n v4 v5 v6 = some v2) (fun (v4, v5, v6) => [(0, AV.slc 0 0 1 v6.length false), (1, AV.fn 65 [AV.ptr 1 0]), (5, Iz v4), (6, Iz v5)]) (fun (v4, v5, v6) => [(0, .grow (List.map (AV.int .i64) v6)), (1, .cells [AV.slc 2 0 1 v1.length false]), (2, .cells (List.map (AV.int .i64) v1))]) 3 k ((v3, IntKind.wrap .i64 (v3 + 1), v0)) hF (by simp [F2]) (by simp [F2]) (by simp) ?_
  rintro (_|n1) ⟨v4, v5, v6⟩ hF K221 hK221
  ·try dsimp only at hF
   rw [slices_DeleteFunc_int_int_All_2.L1] at hF; cases hF
  try dsimp only at hF
  rw [slices_DeleteFunc_int_int_All_2.L1] at hF
  refine AW.seq fun K223 hK223 => ?_
  refine SQ [] [none, none, none, none] fun _ _ g r => ?_
  try simp [F2]
  and_intros <;> first | exact g _ (by kernel_rfl) | refine r _ _ _ ?_ | omega | (simp [maxLen, F2] <;> omega)
  refine WK [(0, AV.slc 0 0 1 v6.length false), (1, AV.fn 65 [AV.ptr 1 0]), (5, Iz v4), (6, Iz v5), (19, AV.bool (decide (v5 < (v6.length : Int))))] [(0, .grow (List.map (AV.int .i64) v6)), (1, .cells [AV.slc 2 0 1 v1.length false]), (2, .cells (List.map (AV.int .i64) v1))] 3 (by simp [F2]) (by simp [F2]) ?_
  by_cases h3 : v5 < (v6.length : Int)
  ·replace hF := ite_t h3 hF
   have h3_ := h3
   try simp at h3_
   have F3 := And.intro F2 (And.intro h3 h3_)
   refine CT (by simp [F3] <;> omega) ?_
   refine AW.skip ?_
   refine hK223 _ _ _ ?_
   refine AW.midF (α := ((List Int) × Int)) (fun (v7, v8) => slices_DeleteFunc_int_int_All_2.J2 k v5 (fun v4_ v5_ v6_ => slices_DeleteFunc_int_int_All_2.L1 k v1 n1 v4_ v5_ v6_) v7 v8 = some v2) (fun (v7, v8) => [(0, AV.slc 0 0 1 v7.length false), (1, AV.fn 65 [AV.ptr 1 0]), (5, Iz v8), (6, Iz v5)]) (fun (v7, v8) => [(0, .grow (List.map (AV.int .i64) v7)), (1, .cells [AV.slc 2 0 1 v1.length false]), (2, .cells (List.map (AV.int .i64) v1))]) 3 (fun K230 hK230 => ?_) ?_
   ·refine AW.block ?_
    refine SQ [] [none, none, none, none, none] fun _ _ g r => ?_
    obtain ⟨⟨h4, h5⟩, hF⟩ := chk_elim hF
    have h5_ := ne_of_lt h5
    obtain ⟨v9, h6, h7, h8, hF⟩ := idx_elim hF
    have h8_ := get_of h8
    try simp at h8_
    have h7_ := h7
    try simp at h7_
    have F4 := And.intro F3 (And.intro h4 (And.intro h5 (And.intro h5_ (And.intro h6 (And.intro h7 (And.intro h8 (And.intro h8_ h7_)))))))
    try simp [F4]
    and_intros <;> first | exact g _ (by kernel_rfl) | refine r _ _ _ ?_ | omega | (simp [maxLen, F4] <;> omega)
    refine WK [(0, AV.slc 0 0 1 v6.length false), (1, AV.fn 65 [AV.ptr 1 0]), (5, Iz v4), (6, Iz v5), (7, Iz v9)] [(0, .grow (List.map (AV.int .i64) v6)), (1, .cells [AV.slc 2 0 1 v1.length false]), (2, .cells (List.map (AV.int .i64) v1))] 3 (by simp [F4]) (by simp [F4]) ?_
    refine SQ [] [none, none, none, none] fun _ _ g r => ?_
    try simp [F4]
    and_intros
    try any_goals first | omega | (simp [maxLen, F4] <;> omega)
    obtain ⟨v10, h9, hF⟩ := bnd1_elim hF
    refine aCall_l (w_distance_All_2 k _ _ _ h9) (by simp) [1, 2] [] [] rfl (.cons (.same (by simp [F4])) (.cons (.same (by simp [F4])) .nil)) (by simp [F4]) (by decide) (by simp) (by simp) (.inl rfl) (by simp) (by simp) ?_
    try simp [F4]
    and_intros <;> first | exact g _ (by kernel_rfl) | refine r _ _ _ ?_ | omega | (simp [maxLen, F4] <;> omega)
    refine WK [(0, AV.slc 0 0 1 v6.length false), (1, AV.fn 65 [AV.ptr 1 0]), (5, Iz v4), (6, Iz v5), (7, Iz v9), (29, AV.bool (!v10))] [(0, .grow (List.map (AV.int .i64) v6)), (1, .cells [AV.slc 2 0 1 v1.length false]), (2, .cells (List.map (AV.int .i64) v1))] 3 (by simp [F4]) (by simp [F4]) ?_
    by_cases h10 : (!v10) = true
    ·replace hF := ite_t h10 hF
     have h10_ := h10
     try simp at h10_
     have F5 := And.intro F4 (And.intro h10 h10_)
     refine CT (by simp [F5] <;> omega) ?_
     refine SQ [] [none, none, none, none, none] fun _ _ g r => ?_
     obtain ⟨⟨h11, h12⟩, hF⟩ := chk_elim hF
     have h12_ := ne_of_lt h12
     have F6 := And.intro F5 (And.intro h11 (And.intro h12 h12_))
     try simp [F6]
     and_intros <;> first | exact g _ (by kernel_rfl) | refine r _ _ _ ?_ | omega | (simp [maxLen, F6] <;> omega)
     refine WK [(0, AV.slc 0 0 1 ((v6.set (v4).toNat v9).length) false), (1, AV.fn 65 [AV.ptr 1 0]), (5, Iz v4), (6, Iz v5)] [(0, .grow (List.map (AV.int .i64) (v6.set (v4).toNat v9))), (1, .cells [AV.slc 2 0 1 v1.length false]), (2, .cells (List.map (AV.int .i64) v1))] 3 (by simp [F6]) (by simp [F6]) ?_
     refine RG [] [none, none, none] fun _ _ g r => ?_
     try simp [F6]
     and_intros <;> first | exact g _ (by kernel_rfl) | refine r _ _ _ ?_ | omega | (simp [maxLen, F6] <;> omega)
     refine hK230 _ _ _ ?_
     exact JN ((v6.set (v4).toNat v9, IntKind.wrap .i64 (v4 + 1))) hF (by simp [F6]) (by simp [F6])
    ·replace hF := ite_f h10 hF
     have h10_ := h10
     try simp at h10_
     have F7 := And.intro F4 (And.intro h10 h10_)
     refine CF (by simp [F7] <;> omega) ?_
     refine AW.skip ?_
     refine hK230 _ _ _ ?_
     exact JN ((v6, v4)) hF (by simp [F7]) (by simp [F7])
   ·rintro ⟨v7, v8⟩ hF
    try dsimp only at hF
    unfold slices_DeleteFunc_int_int_All_2.J2 at hF
    refine RG [] [none, none, none] fun _ _ g r => ?_
    try simp [F3]
    and_intros <;> first | exact g _ (by kernel_rfl) | refine r _ _ _ ?_ | omega | (simp [maxLen, F3] <;> omega)
    refine hK221 _ _ _ ?_
    exact NX (k' := n1) ((v8, IntKind.wrap .i64 (v5 + 1), v7)) hF (by simp [F3]) (by simp [F3])
  ·replace hF := ite_f h3 hF
   have h3_ := h3
   try simp at h3_
   have F8 := And.intro F2 (And.intro h3 h3_)
   refine CF (by simp [F8] <;> omega) ?_
   refine AW.exit ?_
   try simp
   refine hK180 _ _ _ ?_
   refine SQ [] [none, none, none, none] fun _ _ g r => ?_
   obtain ⟨⟨h13, h14⟩, hF⟩ := chk_elim hF
   have h13_ := h13
   try simp at h13_
   have h14_ := h14
   try simp at h14_
   obtain ⟨⟨h17, h15⟩, hF⟩ := chk_elim hF
   have h17n := ne_of_pos h17
   have h17f := flat_ne (F := (AV.int .i64)) (es := 1) (fun _ => rfl) (by decide) h17
   have h16 := setR_end (F := (AV.int .i64)) (es := 1) (fun _ => rfl) v6 0 h15
   obtain ⟨v11, h18, hF⟩ := let1_elim hF
   rw [h18] at h16
   have h16_ := h16
   try simp at h16_
   have h18l : v11.length = v6.length := by rw [← h18]; simp <;> omega
   have h18p : 0 < v11.length := by omega
   have h18n := ne_of_pos h18p
   have h18f := flat_ne (F := (AV.int .i64)) (es := 1) (fun _ => rfl) (by decide) h18p
   have F9 := And.intro F8 (And.intro h13 (And.intro h14 (And.intro h13_ (And.intro h14_ (And.intro h16 (And.intro h16_ (And.intro h17n (And.intro h17f (And.intro h17 (And.intro h15 (And.intro h18l (And.intro h18p (And.intro h18n h18f)))))))))))))
   try simp [F9]
   and_intros <;> first | exact g _ (by kernel_rfl) | refine r _ _ _ ?_ | omega | (simp [maxLen, F9] <;> omega)
   refine WK [(0, AV.slc 0 0 1 v11.length false), (5, Iz v4)] [(0, .grow (List.map (AV.int .i64) v11)), (1, .cells [AV.slc 2 0 1 v1.length false]), (2, .cells (List.map (AV.int .i64) v1))] 3 (by simp [F9]) (by simp [F9]) ?_
   refine SQ [] [none, none, none, none] fun _ _ g r => ?_
   obtain ⟨⟨h19, h20⟩, hF⟩ := chk_elim hF
   have h19_ := h19
   try simp at h19_
   have h20_ := h20
   try simp at h20_
   have F10 := And.intro F9 (And.intro h19 (And.intro h20 (And.intro h19_ h20_)))
   try simp [F10]
   and_intros <;> first | exact g _ (by kernel_rfl) | refine r _ _ _ ?_ | omega | (simp [maxLen, F10] <;> omega)
   refine WK [(4, AV.slc 0 0 1 ((v4).toNat) false)] [(0, .grow (List.map (AV.int .i64) v11)), (1, .cells [AV.slc 2 0 1 v1.length false]), (2, .cells (List.map (AV.int .i64) v1))] 3 (by simp [F10]) (by simp [F10]) ?_
   refine WK [(4, AV.slc 0 0 1 ((v4).toNat) false)] [(0, .grow (List.map (AV.int .i64) v11)), (1, .cells [AV.slc 2 0 1 v1.length false]), (2, .cells (List.map (AV.int .i64) v1))] 3 (by simp [F10]) (by simp [F10]) ?_
   refine AW.frz 0 (o := .grow (List.map (AV.int .i64) v11)) (by simp [F10]) rfl [(4, Lz (v11.take ((v4).toNat)))] [] ⟨(.lst (by simp) (by simp) (by simp [flatA_sub, F10] <;> omega) (by first | (simp; done) | simpa using flat_part0 (len := (v4).toNat) (F := (AV.int .i64)) (es := 1) (fun _ => rfl) v11 (by omega)) rfl), trivial⟩ trivial ?_
   simp only [Option.some.injEq] at hF
   subst hF
   refine AW.ret (hQ _ _ _ ?_ (matchO_0 ?_)).1
   ·simp [Try.f64, F10]
   ·simp [F10]
theorem w_distance_All (k : Nat) (v0 : Int) (v1 : (List api_Edge)) (v2 : (List Int)) (v3 : (List Int)) (v4 : (List Int)) (hF : distance_All k v0 v1 v2 v3 = some v4) :
  FCall Try.prog 43 [AV.agg [AV.int .i64 v0, AV.lst false false (List.map api_Edge.av v1), AV.lst false false (List.map (AV.int .i64) v2)], AV.lst false false (List.map (AV.int .i64) v3)] [] (AV.slc 0 0 1 v4.length false) [some (.cells (List.map (AV.int .i64) v4))] := by
 unfold distance_All at hF
 refine EN Try.func43 ?_
 intro c0 w0 Q h0 hQ
 refine WK [(0, AV.agg [Iz v0, AV.lst false false (List.map api_Edge.av v1), Lz v2]), (1, Lz v3)] [] 0 (by simp) (by simp) ?_
 refine SQ [] [none, none, none] fun _ _ g r => ?_
 try simp
 and_intros <;> first | exact g _ (by kernel_rfl) | refine r _ _ _ ?_ | omega | (simp [maxLen] <;> omega)
 refine WK [(2, AV.ptr 0 0), (3, AV.ptr 1 0)] [(0, .cells [Iz v0, AV.lst false false (List.map api_Edge.av v1), Lz v2]), (1, .cells [Lz v3])] 2 (by simp) (by simp) ?_
 refine SQ [] [none, none, none, none, none, none, none] fun _ _ g r => ?_
 obtain ⟨v5, h1, hF⟩ := let1_elim hF
 have h1_ := h1
 try simp at h1_
 try simp [h1, h1_]
 and_intros
 try any_goals first | omega | (simp [h1, h1_, maxLen] <;> omega)
 obtain ⟨v6, h2, hF⟩ := bnd1_elim hF
 refine AC (w_slices_Repeat_int_int k _ _ _ h2) (.cons (Coe.fl (by simp [h1, h1_])) (.cons (.same (by simp [h1, h1_])) .nil)) ?_
 try simp [h1, h1_]
 and_intros <;> first | exact g _ (by kernel_rfl) | refine r _ _ _ ?_ | omega | (simp [h1, h1_, maxLen] <;> omega)
 refine WK [(2, AV.ptr 0 0), (3, AV.ptr 1 0), (5, AV.ptr 3 0)] [(0, .cells [Iz v0, AV.lst false false (List.map api_Edge.av v1), Lz v2]), (1, .cells [Lz v3]), (2, .cells (List.map (AV.int .i64) v6)), (3, .cells [AV.slc 2 0 1 v6.length false])] 4 (by simp [h1, h1_]) (by simp [h1, h1_]) ?_
 refine SQ [] [none, none, none, none, none] fun _ _ g r => ?_
 try simp [h1, h1_]
 and_intros
 try any_goals first | omega | (simp [h1, h1_, maxLen] <;> omega)
 obtain ⟨v7, h3, hF⟩ := bnd1_elim hF
 refine aCall_l (w_lists_Where_All_1 k _ _ _ _ _ _ h3) (by simp) [0, 1] [] [] rfl (.cons (.same (by simp [h1, h1_])) (.cons (.same (by simp [h1, h1_])) .nil)) (by simp [h1, h1_]) (by decide) (by simp) (by simp) (.inl rfl) (by simp) (by simp) ?_
 try simp [h1, h1_]
 and_intros <;> first | exact g _ (by kernel_rfl) | refine r _ _ _ ?_ | omega | (simp [h1, h1_, maxLen] <;> omega)
 refine WK [(2, AV.ptr 0 0), (5, AV.ptr 3 0), (6, AV.slc 4 0 1 v7.length false)] [(0, .cells [Iz v0, AV.lst false false (List.map api_Edge.av v1), Lz v2]), (2, .cells (List.map (AV.int .i64) v6)), (3, .cells [AV.slc 2 0 1 v6.length false]), (4, .grow (List.map (AV.int .i64) v7))] 5 (by simp [h1, h1_]) (by simp [h1, h1_]) ?_
 refine AW.frz 4 (o := .grow (List.map (AV.int .i64) v7)) (by simp [h1, h1_]) rfl [(6, Lz v7)] [] ⟨(.l (by simp) (by simp) (by simp) (by simp)), trivial⟩ trivial ?_
 refine WK [(2, AV.ptr 0 0), (5, AV.ptr 3 0), (6, Lz v7)] [(0, .cells [Iz v0, AV.lst false false (List.map api_Edge.av v1), Lz v2]), (2, .cells (List.map (AV.int .i64) v6)), (3, .cells [AV.slc 2 0 1 v6.length false])] 5 (by simp [h1, h1_]) (by simp [h1, h1_]) ?_
 refine AW.seq fun K3315 hK3315 => ?_
 refine SQ [] [none] fun _ _ g r => ?_
 try simp [h1, h1_]
 and_intros <;> first | exact g _ (by kernel_rfl) | refine r _ _ _ ?_ | omega | (simp [h1, h1_, maxLen] <;> omega)
 refine WK [(2, AV.ptr 0 0), (5, AV.ptr 3 0), (6, Lz v7), (7, Iz 0)] [(0, .cells [Iz v0, AV.lst false false (List.map api_Edge.av v1), Lz v2]), (2, .cells (List.map (AV.int .i64) v6)), (3, .cells [AV.slc 2 0 1 v6.length false])] 5 (by simp [h1, h1_]) (by simp [h1, h1_]) ?_
 refine AW.block ?_
 refine RM h0 [(0, 0), (1, 3), (2, 2)] [(2, AV.ptr 0 0), (5, AV.ptr 1 0), (6, Lz v7), (7, Iz 0)] [(0, .cells [Iz v0, AV.lst false false (List.map api_Edge.av v1), Lz v2]), (1, .cells [AV.slc 2 0 1 v6.length false]), (2, .cells (List.map (AV.int .i64) v6))] 3 (by simp [h1, h1_]) (by simp [h1, h1_]) ?_
 refine AW.loopF (α := ((List Int) × Int × (List Int))) (fun n (v8, v9, v10) => distance_All.L1 k v0 v1 v2 n v8 v9 v10 = some v4) (fun (v8, v9, v10) => [(2, AV.ptr 0 0), (5, AV.ptr 1 0), (6, Lz v8), (7, Iz v9)]) (fun (v8, v9, v10) => [(0, .cells [Iz v0, AV.lst false false (List.map api_Edge.av v1), Lz v2]), (1, .cells [AV.slc 2 0 1 v10.length false]), (2, .cells (List.map (AV.int .i64) v10))]) 3 k ((v7, 0, v6)) hF (by simp [h1, h1_]) (by simp [h1, h1_]) (by simp) ?_
 rintro (_|n1) ⟨v8, v9, v10⟩ hF K4142 hK4142
 ·try dsimp only at hF
  rw [distance_All.L1] at hF; cases hF
 try dsimp only at hF
 rw [distance_All.L1] at hF
 refine AW.seq fun K4144 hK4144 => ?_
 refine SQ [] [none, none, none] fun _ _ g r => ?_
 try simp [h1, h1_]
 and_intros <;> first | exact g _ (by kernel_rfl) | refine r _ _ _ ?_ | omega | (simp [h1, h1_, maxLen] <;> omega)
 refine WK [(2, AV.ptr 0 0), (5, AV.ptr 1 0), (6, Lz v8), (7, Iz v9), (22, AV.bool (decide (0 < (v8.length : Int))))] [(0, .cells [Iz v0, AV.lst false false (List.map api_Edge.av v1), Lz v2]), (1, .cells [AV.slc 2 0 1 v10.length false]), (2, .cells (List.map (AV.int .i64) v10))] 3 (by simp [h1, h1_]) (by simp [h1, h1_]) ?_
 by_cases h4 : 0 < (v8.length : Int)
 ·replace hF := ite_t h4 hF
  have h4_ := h4
  try simp at h4_
  have F1 := And.intro h1 (And.intro h1_ (And.intro h4 h4_))
  refine CT (by simp [F1] <;> omega) ?_
  refine AW.skip ?_
  refine hK4144 _ _ _ ?_
  refine AW.seq fun K4281 hK4281 => ?_
  refine AW.block ?_
  refine SQ [] [none] fun _ _ g r => ?_
  try simp [F1]
  and_intros <;> first | exact g _ (by kernel_rfl) | refine r _ _ _ ?_ | omega | (simp [maxLen, F1] <;> omega)
  refine WK [(2, AV.ptr 0 0), (5, AV.ptr 1 0), (6, Lz v8), (7, Iz v9), (8, AV.lst true true (List.map (AV.int .i64) ([] : List Int)))] [(0, .cells [Iz v0, AV.lst false false (List.map api_Edge.av v1), Lz v2]), (1, .cells [AV.slc 2 0 1 v10.length false]), (2, .cells (List.map (AV.int .i64) v10))] 3 (by simp [F1]) (by simp [F1]) ?_
  refine AW.seq fun K4349 hK4349 => ?_
  refine SQ [] [none, none, none] fun _ _ g r => ?_
  try simp [F1]
  and_intros <;> first | exact g _ (by kernel_rfl) | refine r _ _ _ ?_ | omega | (simp [maxLen, F1] <;> omega)
  refine WK [(2, AV.ptr 0 0), (5, AV.ptr 1 0), (7, Iz v9), (8, AV.lst true true (List.map (AV.int .i64) ([] : List Int))), (25, Lz v8), (26, Iz (v8.length : Int)), (27, Iz 0)] [(0, .cells [Iz v0, AV.lst false false (List.map api_Edge.av v1), Lz v2]), (1, .cells [AV.slc 2 0 1 v10.length false]), (2, .cells (List.map (AV.int .i64) v10))] 3 (by simp [F1]) (by simp [F1]) ?_
  refine AW.block ?_
  refine AW.own' 8 1 true (by simp [F1]) (by decide) ?_
  refine AW.loopF (α := (Int × (List Int) × (List Int))) (fun n (v11, v12, v13) => distance_All.L2 k v0 v1 v2 v8 v9 (fun v8_ v9_ v10_ => distance_All.L1 k v0 v1 v2 n1 v8_ v9_ v10_) n v11 v12 v13 = some v4) (fun (v11, v12, v13) => [(2, AV.ptr 0 0), (5, AV.ptr 1 0), (7, Iz v9), (8, AV.slc 3 0 1 v13.length false), (25, Lz v8), (26, Iz (v8.length : Int)), (27, Iz v11)]) (fun (v11, v12, v13) => [(0, .cells [Iz v0, AV.lst false false (List.map api_Edge.av v1), Lz v2]), (1, .cells [AV.slc 2 0 1 v12.length false]), (2, .cells (List.map (AV.int .i64) v12)), (3, .grow (List.map (AV.int .i64) v13))]) 4 k ((0, v10, ([] : List Int))) hF (by simp [F1]) (by simp [F1]) (by simp) ?_
  rintro (_|n2) ⟨v11, v12, v13⟩ hF K4399 hK4399
  ·try dsimp only at hF
   rw [distance_All.L2] at hF; cases hF
  try dsimp only at hF
  rw [distance_All.L2] at hF
  refine SQ [] [none] fun _ _ g r => ?_
  try simp [F1]
  and_intros <;> first | exact g _ (by kernel_rfl) | refine r _ _ _ ?_ | omega | (simp [maxLen, F1] <;> omega)
  refine WK [(2, AV.ptr 0 0), (5, AV.ptr 1 0), (7, Iz v9), (8, AV.slc 3 0 1 v13.length false), (25, Lz v8), (26, Iz (v8.length : Int)), (27, Iz v11), (28, AV.bool (decide (v11 < (v8.length : Int))))] [(0, .cells [Iz v0, AV.lst false false (List.map api_Edge.av v1), Lz v2]), (1, .cells [AV.slc 2 0 1 v12.length false]), (2, .cells (List.map (AV.int .i64) v12)), (3, .grow (List.map (AV.int .i64) v13))] 4 (by simp [F1]) (by simp [F1]) ?_
  refine AW.seq fun K4401 hK4401 => ?_
  by_cases h5 : v11 < (v8.length : Int)
  ·replace hF := ite_t h5 hF
   have h5_ := h5
   try simp at h5_
   have F2 := And.intro F1 (And.intro h5 h5_)
   refine CT (by simp [F2] <;> omega) ?_
   refine AW.skip ?_
   refine hK4401 _ _ _ ?_
   refine AW.midF (α := ((List Int) × (List Int))) (fun (v14, v15) => distance_All.J3 k v11 (fun v11_ v12_ v13_ => distance_All.L2 k v0 v1 v2 v8 v9 (fun v8_ v9_ v10_ => distance_All.L1 k v0 v1 v2 n1 v8_ v9_ v10_) n2 v11_ v12_ v13_) v14 v15 = some v4) (fun (v14, v15) => [(2, AV.ptr 0 0), (5, AV.ptr 1 0), (7, Iz v9), (8, AV.slc 3 0 1 v15.length false), (25, Lz v8), (26, Iz (v8.length : Int)), (27, Iz v11)]) (fun (v14, v15) => [(0, .cells [Iz v0, AV.lst false false (List.map api_Edge.av v1), Lz v2]), (1, .cells [AV.slc 2 0 1 v14.length false]), (2, .cells (List.map (AV.int .i64) v14)), (3, .grow (List.map (AV.int .i64) v15))]) 4 (fun K4409 hK4409 => ?_) ?_
   ·refine AW.block ?_
    refine SQ [] [none, none, none] fun _ _ g r => ?_
    obtain ⟨v16, h6, h7, h8, hF⟩ := idx_elim hF
    have h8_ := get_of h8
    try simp at h8_
    have h7_ := h7
    try simp at h7_
    have F3 := And.intro F2 (And.intro h6 (And.intro h7 (And.intro h8 (And.intro h8_ h7_))))
    try simp [F3]
    and_intros <;> first | exact g _ (by kernel_rfl) | refine r _ _ _ ?_ | omega | (simp [maxLen, F3] <;> omega)
    refine WK [(2, AV.ptr 0 0), (5, AV.ptr 1 0), (7, Iz v9), (8, AV.slc 3 0 1 v13.length false), (10, Iz v16), (25, Lz v8), (26, Iz (v8.length : Int)), (27, Iz v11)] [(0, .cells [Iz v0, AV.lst false false (List.map api_Edge.av v1), Lz v2]), (1, .cells [AV.slc 2 0 1 v12.length false]), (2, .cells (List.map (AV.int .i64) v12)), (3, .grow (List.map (AV.int .i64) v13))] 4 (by simp [F3]) (by simp [F3]) ?_
    refine AW.seq fun K4412 hK4412 => ?_
    refine SQ [] [none, none, none, none, none] fun _ _ g r => ?_
    obtain ⟨⟨h9, h10⟩, hF⟩ := chk_elim hF
    have h10_ := ne_of_lt h10
    obtain ⟨v17, h11, h12, h13, hF⟩ := idx_elim hF
    have h13_ := get_of h13
    try simp at h13_
    have h12_ := h12
    try simp at h12_
    have F4 := And.intro F3 (And.intro h9 (And.intro h10 (And.intro h10_ (And.intro h11 (And.intro h12 (And.intro h13 (And.intro h13_ h12_)))))))
    try simp [F4]
    and_intros <;> first | exact g _ (by kernel_rfl) | refine r _ _ _ ?_ | omega | (simp [maxLen, F4] <;> omega)
    refine WK [(2, AV.ptr 0 0), (5, AV.ptr 1 0), (7, Iz v9), (8, AV.slc 3 0 1 v13.length false), (10, Iz v16), (25, Lz v8), (26, Iz (v8.length : Int)), (27, Iz v11), (35, AV.bool (decide (0 ≤ v17)))] [(0, .cells [Iz v0, AV.lst false false (List.map api_Edge.av v1), Lz v2]), (1, .cells [AV.slc 2 0 1 v12.length false]), (2, .cells (List.map (AV.int .i64) v12)), (3, .grow (List.map (AV.int .i64) v13))] 4 (by simp [F4]) (by simp [F4]) ?_
    by_cases h14 : 0 ≤ v17
    ·replace hF := ite_t h14 hF
     have h14_ := h14
     try simp at h14_
     have F5 := And.intro F4 (And.intro h14 h14_)
     refine CT (by simp [F5] <;> omega) ?_
     refine AW.exit ?_
     try simp
     refine hK4409 _ _ _ ?_
     exact JN ((v12, v13)) hF (by simp [F5]) (by simp [F5])
    ·replace hF := ite_f h14 hF
     have h14_ := h14
     try simp at h14_
     have F6 := And.intro F4 (And.intro h14 h14_)
     refine CF (by simp [F6] <;> omega) ?_
     refine AW.skip ?_
     refine hK4412 _ _ _ ?_
     refine SQ [] [none, none, none, none, none] fun _ _ g r => ?_
     obtain ⟨⟨h15, h16⟩, hF⟩ := chk_elim hF
     have h16_ := ne_of_lt h16
     have F7 := And.intro F6 (And.intro h15 (And.intro h16 h16_))
     try simp [F7]
     and_intros <;> first | exact g _ (by kernel_rfl) | refine r _ _ _ ?_ | omega | (simp [maxLen, F7] <;> omega)
     refine WK [(2, AV.ptr 0 0), (5, AV.ptr 1 0), (7, Iz v9), (8, AV.slc 3 0 1 v13.length false), (10, Iz v16), (25, Lz v8), (26, Iz (v8.length : Int)), (27, Iz v11)] [(0, .cells [Iz v0, AV.lst false false (List.map api_Edge.av v1), Lz v2]), (1, .cells [AV.slc 2 0 1 ((v12.set (v16).toNat v9).length) false]), (2, .cells (List.map (AV.int .i64) (v12.set (v16).toNat v9))), (3, .grow (List.map (AV.int .i64) v13))] 4 (by simp [F7]) (by simp [F7]) ?_
     refine RG [] [none, none, none, none, none, none] fun _ _ g r => ?_
     try simp [F7]
     and_intros
     try any_goals first | omega | (simp [maxLen, F7] <;> omega)
     obtain ⟨v18, h17, hF⟩ := bnd1_elim hF
     refine AC (w_graph_Out k _ _ _ _ _ h17) (.cons (.same (by simp [F7])) (.cons (.same (by simp [F7])) .nil)) ?_
     obtain ⟨h18, hF⟩ := chk_elim hF
     have h18_ := h18
     try simp at h18_
     have F8 := And.intro F7 h18
     try simp [F8]
     and_intros <;> first | exact g _ (by kernel_rfl) | refine r _ _ _ ?_ | omega | (simp [maxLen, F8] <;> omega)
     refine hK4409 _ _ _ ?_
     refine RN h0 [(0, 0), (1, 1), (2, 2), (3, 4)] [(2, AV.ptr 0 0), (5, AV.ptr 1 0), (7, Iz v9), (8, AV.slc 3 0 1 ((v13 ++ v18).length) false), (25, Lz v8), (26, Iz (v8.length : Int)), (27, Iz v11)] [(0, .cells [Iz v0, AV.lst false false (List.map api_Edge.av v1), Lz v2]), (1, .cells [AV.slc 2 0 1 ((v12.set (v16).toNat v9).length) false]), (2, .cells (List.map (AV.int .i64) (v12.set (v16).toNat v9))), (3, .grow (List.map (AV.int .i64) (v13 ++ v18)))] 4 (by simp [F8] <;> omega) (by simp [F8]) ?_
     exact JN ((v12.set (v16).toNat v9, v13 ++ v18)) hF (by simp [F8]) (by simp [F8])
   ·rintro ⟨v14, v15⟩ hF
    try dsimp only at hF
    unfold distance_All.J3 at hF
    refine RG [] [none, none] fun _ _ g r => ?_
    try simp [F2]
    and_intros <;> first | exact g _ (by kernel_rfl) | refine r _ _ _ ?_ | omega | (simp [maxLen, F2] <;> omega)
    refine hK4399 _ _ _ ?_
    exact NX (k' := n2) ((IntKind.wrap .i64 (v11 + 1), v14, v15)) hF (by simp [F2]) (by simp [F2])
  ·replace hF := ite_f h5 hF
   have h5_ := h5
   try simp at h5_
   have F9 := And.intro F1 (And.intro h5 h5_)
   refine CF (by simp [F9] <;> omega) ?_
   refine AW.exit ?_
   try simp
   refine hK4349 _ _ _ ?_
   refine RG [] [none, none, none, none] fun _ _ g r => ?_
   try simp [F9]
   and_intros
   try any_goals first | omega | (simp [maxLen, F9] <;> omega)
   obtain ⟨v19, h19, hF⟩ := bnd1_elim hF
   refine aCall_l (w_slices_DeleteFunc_int_int_All_2 k _ _ _ h19) (by simp) [3, 1, 2] [] [3] rfl (.cons (.same (by simp [F9])) (.cons (.same (by simp [F9])) .nil)) (by simp [F9]) (by decide) (by simp) (by simp) (.inl rfl) (by simp) (by simp) ?_
   try simp [F9]
   and_intros <;> first | exact g _ (by kernel_rfl) | refine r _ _ _ ?_ | omega | (simp [maxLen, F9] <;> omega)
   refine hK4281 _ _ _ ?_
   refine WK [(2, AV.ptr 0 0), (5, AV.ptr 1 0), (6, Lz v19), (7, Iz v9)] [(0, .cells [Iz v0, AV.lst false false (List.map api_Edge.av v1), Lz v2]), (1, .cells [AV.slc 2 0 1 v12.length false]), (2, .cells (List.map (AV.int .i64) v12))] 4 (by simp [F9]) (by simp [F9]) ?_
   refine RG [] [none, none, none] fun _ _ g r => ?_
   try simp [F9]
   and_intros <;> first | exact g _ (by kernel_rfl) | refine r _ _ _ ?_ | omega | (simp [maxLen, F9] <;> omega)
   refine hK4142 _ _ _ ?_
   refine RN h0 [(0, 0), (1, 1), (2, 2)] [(2, AV.ptr 0 0), (5, AV.ptr 1 0), (6, Lz v19), (7, Iz (IntKind.wrap .i64 (v9 + 1)))] [(0, .cells [Iz v0, AV.lst false false (List.map api_Edge.av v1), Lz v2]), (1, .cells [AV.slc 2 0 1 v12.length false]), (2, .cells (List.map (AV.int .i64) v12))] 3 (by simp [F9]) (by simp [F9]) ?_
   exact NX (k' := n1) ((v19, IntKind.wrap .i64 (v9 + 1), v12)) hF (by simp [F9]) (by simp [F9])
 ·replace hF := ite_f h4 hF
  have h4_ := h4
  try simp at h4_
  have F10 := And.intro h1 (And.intro h1_ (And.intro h4 h4_))
  refine CF (by simp [F10] <;> omega) ?_
  refine AW.exit ?_
  try simp
  refine hK3315 _ _ _ ?_
  refine SQ [] [none, none] fun _ _ g r => ?_
  try simp [F10]
  and_intros <;> first | exact g _ (by kernel_rfl) | refine r _ _ _ ?_ | omega | (simp [maxLen, F10] <;> omega)
  refine RM h0 [(0, 2)] [(4, AV.slc 0 0 1 v10.length false)] [(0, .cells (List.map (AV.int .i64) v10))] 1 (by simp [F10]) (by simp [F10]) ?_
  simp only [Option.some.injEq] at hF
  subst hF
  refine AW.ret (hQ _ _ _ ?_ (matchO_0 ?_)).1
  ·simp [Try.f43, F10]
  ·simp [F10]
theorem w_capacity_Of (k : Nat) (v0 : (List Int)) (v1 : (List Int)) (v2 : Int) (v3 : Int) (v4 : Int) (hF : capacity_Of k v0 v1 v2 v3 = some v4) :
  FCall Try.prog 13 [AV.agg [AV.lst false false (List.map (AV.int .i64) v0), AV.lst false false (List.map (AV.int .i64) v1), AV.int .i64 v2], AV.int .i64 v3] [] (AV.int .i64 v4) [] := by
 unfold capacity_Of at hF
 refine EN Try.func13 ?_
 intro c0 w0 Q h0 hQ
 refine WK [(0, AV.agg [Lz v0, Lz v1, Iz v2]), (1, Iz v3)] [] 0 (by simp) (by simp) ?_
 refine SQ [] [none, none] fun _ _ g r => ?_
 try simp
 and_intros <;> first | exact g _ (by kernel_rfl) | refine r _ _ _ ?_ | omega | (simp [maxLen] <;> omega)
 refine WK [(1, Iz v3), (2, AV.ptr 0 0)] [(0, .cells [Lz v0, Lz v1, Iz v2])] 1 (by simp) (by simp) ?_
 refine AW.seq fun K17 hK17 => ?_
 refine AW.block ?_
 refine SQ [] [none, none, none] fun _ _ g r => ?_
 try simp
 and_intros <;> first | exact g _ (by kernel_rfl) | refine r _ _ _ ?_ | omega | (simp [maxLen] <;> omega)
 refine WK [(1, Iz v3), (2, AV.ptr 0 0), (5, AV.bool (decide (v3 < 0)))] [(0, .cells [Lz v0, Lz v1, Iz v2])] 1 (by simp) (by simp) ?_
 by_cases h1 : v3 < 0
 ·replace hF := ite_t h1 hF
  have h1_ := h1
  try simp at h1_
  refine CT (by simp [h1, h1_] <;> omega) ?_
  refine SQ [] [none] fun _ _ g r => ?_
  try simp [h1, h1_]
  and_intros <;> first | exact g _ (by kernel_rfl) | refine r _ _ _ ?_ | omega | (simp [h1, h1_, maxLen] <;> omega)
  refine WK [(4, Iz 0)] [] 1 (by simp [h1, h1_]) (by simp [h1, h1_]) ?_
  simp only [Option.some.injEq] at hF
  subst hF
  refine AW.ret (hQ _ _ _ ?_ (matchO_0 ?_)).1
  ·simp [Try.f13, h1, h1_]
  ·simp [h1, h1_]
 ·replace hF := ite_f h1 hF
  have h1_ := h1
  try simp at h1_
  refine CF (by simp [h1, h1_] <;> omega) ?_
  refine SQ [] [none, none, none, none, none, none] fun _ _ g r => ?_
  try simp [h1, h1_]
  and_intros <;> first | exact g _ (by kernel_rfl) | refine r _ _ _ ?_ | omega | (simp [h1, h1_, maxLen] <;> omega)
  refine WK [(1, Iz v3), (2, AV.ptr 0 0), (8, AV.bool (decide (v3 < (v1.length : Int))))] [(0, .cells [Lz v0, Lz v1, Iz v2])] 1 (by simp [h1, h1_]) (by simp [h1, h1_]) ?_
  by_cases h2 : v3 < (v1.length : Int)
  ·replace hF := ite_t h2 hF
   have h2_ := h2
   try simp at h2_
   have F1 := And.intro h1 (And.intro h1_ (And.intro h2 h2_))
   refine CT (by simp [F1] <;> omega) ?_
   refine SQ [] [none, none, none, none, none, none] fun _ _ g r => ?_
   obtain ⟨v5, h3, h4, h5, hF⟩ := idx_elim hF
   have h5_ := get_of h5
   try simp at h5_
   have h4_ := h4
   try simp at h4_
   have F2 := And.intro F1 (And.intro h3 (And.intro h4 (And.intro h5 (And.intro h5_ h4_))))
   try simp [F2]
   and_intros <;> first | exact g _ (by kernel_rfl) | refine r _ _ _ ?_ | omega | (simp [maxLen, F2] <;> omega)
   refine WK [(4, Iz v5)] [] 1 (by simp [F2]) (by simp [F2]) ?_
   simp only [Option.some.injEq] at hF
   subst hF
   refine AW.ret (hQ _ _ _ ?_ (matchO_0 ?_)).1
   ·simp [Try.f13, F2]
   ·simp [F2]
  ·replace hF := ite_f h2 hF
   have h2_ := h2
   try simp at h2_
   have F3 := And.intro h1 (And.intro h1_ (And.intro h2 h2_))
   refine CF (by simp [F3] <;> omega) ?_
   refine AW.skip ?_
   refine hK17 _ _ _ ?_
   refine SQ [] [none] fun _ _ g r => ?_
   try simp [F3]
   and_intros <;> first | exact g _ (by kernel_rfl) | refine r _ _ _ ?_ | omega | (simp [maxLen, F3] <;> omega)
   refine WK [(4, Iz 1)] [] 1 (by simp [F3]) (by simp [F3]) ?_
   simp only [Option.some.injEq] at hF
   subst hF
   refine AW.ret (hQ _ _ _ ?_ (matchO_0 ?_)).1
   ·simp [Try.f13, F3]
   ·simp [F3]
end Go.TF
