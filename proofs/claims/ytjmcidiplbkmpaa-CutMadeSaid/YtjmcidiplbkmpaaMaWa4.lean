/- Walks: the Go text computes the Lean functions (printed by a program of our own). -/
import Derived.Test.YtjmcidiplbkmpaaMaPu
import Derived.Test.YtjmcidiplbkmpaaMaAbsT
import Derived.Test.YtjmcidiplbkmpaaMaWa0
import Derived.Test.YtjmcidiplbkmpaaMaWa1
import Derived.Test.YtjmcidiplbkmpaaMaWa2
import Derived.Test.YtjmcidiplbkmpaaMaWa3
set_option linter.unusedVariables false
set_option linter.unusedSimpArgs false
set_option maxRecDepth 100000
set_option maxHeartbeats 4000000
namespace Go.TF
open Go Go.Abs Go.Proofs Go.Proofs.YtjmcidiplbkmpaaMaT
theorem w_ref15_Max (k : Nat) (v0 : Int) (v1 : (List api_Arc)) (v2 : (List Int)) (v3 : Int) (hF : ref15_Max k v0 v1 = some (v2, v3)) :
  FCall Try.prog 19 [AV.agg [AV.int .i64 v0, AV.lst false false (List.map api_Arc.av v1)]] [] (AV.tup [AV.lst false false (List.map (AV.int .i64) v2), AV.int .i64 v3]) [] := by
 unfold ref15_Max at hF
 refine EN Try.func19 ?_
 intro c0 w0 Q h0 hQ
 refine WK [(0, AV.agg [Iz v0, AV.lst false false (List.map api_Arc.av v1)])] [] 0 (by simp [-List.reduceReplicate, sOf_set, ofI_set, allU8_set]) (by simp [-List.reduceReplicate, sOf_set, ofI_set, allU8_set]) ?_
 refine SQ [] [none, none, none] fun _ _ g r => ?_
 try simp [-List.reduceReplicate, sOf_set, ofI_set, allU8_set]
 and_intros <;> first | exact g _ (by kernel_rfl) | refine r _ _ _ ?_ | omega | (simp [-List.reduceReplicate, sOf_set, ofI_set, allU8_set, maxLen] <;> omega)
 refine WK [(1, AV.ptr 0 0)] [(0, .cells [Iz v0, AV.lst false false (List.map api_Arc.av v1)])] 1 (by simp [-List.reduceReplicate, sOf_set, ofI_set, allU8_set]) (by simp [-List.reduceReplicate, sOf_set, ofI_set, allU8_set]) ?_
 refine AW.seq fun K436 hK436 => ?_
 refine SQ [] [none, none, none] fun _ _ g r => ?_
 try simp [-List.reduceReplicate, sOf_set, ofI_set, allU8_set]
 and_intros
 try any_goals first | omega | (simp [-List.reduceReplicate, sOf_set, ofI_set, allU8_set, maxLen] <;> omega)
 obtain ⟨v4, h1, hF⟩ := bnd1_elim hF
 refine AC (w_ref15_Check k _ _ _ h1) (.cons (.same (by simp)) .nil) ?_
 try simp [-List.reduceReplicate, sOf_set, ofI_set, allU8_set]
 and_intros <;> first | exact g _ (by kernel_rfl) | refine r _ _ _ ?_ | omega | (simp [-List.reduceReplicate, sOf_set, ofI_set, allU8_set, maxLen] <;> omega)
 refine WK [(1, AV.ptr 0 0), (13, AV.bool (v4 != 0))] [(0, .cells [Iz v0, AV.lst false false (List.map api_Arc.av v1)])] 1 (by simp [-List.reduceReplicate, sOf_set, ofI_set, allU8_set]) (by simp [-List.reduceReplicate, sOf_set, ofI_set, allU8_set]) ?_
 by_cases h2 : v4 ≠ 0
 ·replace hF := ite_t h2 hF
  have h2_ := eqb_f h2
  have h2__ := neb_t h2
  have F1 := And.intro h2 (And.intro h2_ h2__)
  refine CT (by simp [-List.reduceReplicate, sOf_set, ofI_set, allU8_set, F1] <;> omega) ?_
  refine SQ [] [none, none] fun _ _ g r => ?_
  try simp [-List.reduceReplicate, sOf_set, ofI_set, allU8_set, F1]
  and_intros <;> first | exact g _ (by kernel_rfl) | refine r _ _ _ ?_ | omega | (simp [-List.reduceReplicate, sOf_set, ofI_set, allU8_set, maxLen, F1] <;> omega)
  refine WK [(2, AV.lst true true (List.map (AV.int .i64) ([] : List Int))), (3, Iz 16)] [] 1 (by simp [-List.reduceReplicate, sOf_set, ofI_set, allU8_set, F1]) (by simp [-List.reduceReplicate, sOf_set, ofI_set, allU8_set, F1]) ?_
  refine AW.flg [(2, Lz ([] : List Int))] [] ⟨(.lst (by simp)), trivial⟩ trivial (by simp) ?_
  simp only [Option.some.injEq, Prod.mk.injEq] at hF
  obtain ⟨e0, e1⟩ := hF
  subst e0 e1
  refine AW.ret (hQ _ _ _ ?_ (matchO_0 ?_)).1
  ·simp [Try.f19, F1]
  ·simp [F1]
 ·replace hF := ite_f h2 hF
  have h2q : v4 = 0 := Classical.not_not.1 h2
  have h2_ := eqb_t h2q
  have h2__ := neb_f h2q
  refine CF (by simp [-List.reduceReplicate, sOf_set, ofI_set, allU8_set, h2_, h2__, h2q] <;> omega) ?_
  refine AW.skip ?_
  refine hK436 _ _ _ ?_
  refine SQ [17] [none, none, none, none, none] fun _ _ g r => ?_
  obtain ⟨h3, hF⟩ := chk_elim hF
  have F2 := And.intro h2_ (And.intro h2__ (And.intro h2q h3))
  try simp [-List.reduceReplicate, sOf_set, ofI_set, allU8_set, F2]
  and_intros <;> first | exact g _ (by kernel_rfl) | refine r _ _ _ ?_ | omega | (simp [-List.reduceReplicate, sOf_set, ofI_set, allU8_set, maxLen, F2] <;> omega)
  refine WK [(1, AV.ptr 0 0), (4, AV.slc 1 0 1 ((List.replicate ((v1.length : Int)).toNat (0 : Int)).length) true)] [(0, .cells [Iz v0, AV.lst false false (List.map api_Arc.av v1)]), (1, .cells (List.map (AV.int .i64) (List.replicate ((v1.length : Int)).toNat (0 : Int))))] 2 (by simp [-List.reduceReplicate, sOf_set, ofI_set, allU8_set, F2]) (by simp [-List.reduceReplicate, sOf_set, ofI_set, allU8_set, F2]) ?_
  refine AW.block ?_
  refine AW.loopF (α := (List Int)) (fun n v5 => ref15_Max.L1 k v0 v1 n v5 = some (v2, v3)) (fun v5 => [(1, AV.ptr 0 0), (4, AV.slc 1 0 1 v5.length true)]) (fun v5 => [(0, .cells [Iz v0, AV.lst false false (List.map api_Arc.av v1)]), (1, .cells (List.map (AV.int .i64) v5))]) 2 k ((List.replicate ((v1.length : Int)).toNat (0 : Int))) hF (by simp [-List.reduceReplicate, sOf_set, ofI_set, allU8_set, F2]) (by simp [-List.reduceReplicate, sOf_set, ofI_set, allU8_set, F2]) (by simp) ?_
  rintro (_|n1) v5 hF K758 hK758
  ·try dsimp only at hF
   rw [ref15_Max.L1] at hF; cases hF
  try dsimp only at hF
  rw [ref15_Max.L1] at hF
  refine AW.block ?_
  refine SQ [] [none, none, none, none] fun _ _ g r => ?_
  try simp [-List.reduceReplicate, sOf_set, ofI_set, allU8_set, F2]
  and_intros
  try any_goals first | omega | (simp [-List.reduceReplicate, sOf_set, ofI_set, allU8_set, maxLen, F2] <;> omega)
  obtain ⟨v6, h4, hF⟩ := bnd1_elim hF
  refine aCall_l (w_ref15_Residual k _ _ _ _ h4) (by simp) [] [1] [] rfl (.cons (.same (by simp [-List.reduceReplicate, sOf_set, ofI_set, allU8_set, F2])) (.cons (Coe.l (o := .cells (List.map (AV.int .i64) v5)) (by simp [-List.reduceReplicate, sOf_set, ofI_set, allU8_set, F2]) rfl (by simp [-List.reduceReplicate, sOf_set, ofI_set, allU8_set, F2]) (by simp [noIdsL]) (by simp [-List.reduceReplicate, sOf_set, ofI_set, allU8_set, F2]) (by simp [-List.reduceReplicate, sOf_set, ofI_set, allU8_set, F2])) .nil)) (by simp [-List.reduceReplicate, sOf_set, ofI_set, allU8_set, F2]) (by decide) (by simp) (by simp) (.inr ⟨by simp, by simp⟩) (by simp) (by simp) ?_
  try simp [-List.reduceReplicate, sOf_set, ofI_set, allU8_set, F2]
  and_intros <;> first | exact g _ (by kernel_rfl) | refine r _ _ _ ?_ | omega | (simp [-List.reduceReplicate, sOf_set, ofI_set, allU8_set, maxLen, F2] <;> omega)
  refine WK [(1, AV.ptr 0 0), (4, AV.slc 1 0 1 v5.length true), (5, AV.slc 2 0 1 v6.length false)] [(0, .cells [Iz v0, AV.lst false false (List.map api_Arc.av v1)]), (1, .cells (List.map (AV.int .i64) v5)), (2, .cells (List.map (AV.int .i64) v6))] 3 (by simp [-List.reduceReplicate, sOf_set, ofI_set, allU8_set, F2]) (by simp [-List.reduceReplicate, sOf_set, ofI_set, allU8_set, F2]) ?_
  refine AW.frz 2 (o := .cells (List.map (AV.int .i64) v6)) (by simp [-List.reduceReplicate, sOf_set, ofI_set, allU8_set, F2]) rfl [(5, Lz v6)] [] ⟨(.l (by simp) (by simp) (by simp) (by simp)), trivial⟩ trivial ?_
  refine WK [(1, AV.ptr 0 0), (4, AV.slc 1 0 1 v5.length true), (5, Lz v6)] [(0, .cells [Iz v0, AV.lst false false (List.map api_Arc.av v1)]), (1, .cells (List.map (AV.int .i64) v5))] 3 (by simp [-List.reduceReplicate, sOf_set, ofI_set, allU8_set, F2]) (by simp [-List.reduceReplicate, sOf_set, ofI_set, allU8_set, F2]) ?_
  refine AW.seq fun K762 hK762 => ?_
  refine SQ [] [none, none, none, none] fun _ _ g r => ?_
  obtain ⟨v7, h5, h6, h7, hF⟩ := idx_elim hF
  have h7_ := get_of h7
  try simp [-List.reduceReplicate] at h7_
  have h6_ := h6
  try simp [-List.reduceReplicate] at h6_
  have F3 := And.intro F2 (And.intro h5 (And.intro h6 (And.intro h7 (And.intro h7_ h6_))))
  try simp [-List.reduceReplicate, sOf_set, ofI_set, allU8_set, F3]
  and_intros <;> first | exact g _ (by kernel_rfl) | refine r _ _ _ ?_ | omega | (simp [-List.reduceReplicate, sOf_set, ofI_set, allU8_set, maxLen, F3] <;> omega)
  refine WK [(1, AV.ptr 0 0), (4, AV.slc 1 0 1 v5.length true), (5, Lz v6), (24, AV.bool (v7 == 0))] [(0, .cells [Iz v0, AV.lst false false (List.map api_Arc.av v1)]), (1, .cells (List.map (AV.int .i64) v5))] 3 (by simp [-List.reduceReplicate, sOf_set, ofI_set, allU8_set, F3]) (by simp [-List.reduceReplicate, sOf_set, ofI_set, allU8_set, F3]) ?_
  by_cases h8 : v7 = 0
  ·replace hF := ite_t h8 hF
   have h8q : v7 = 0 := h8
   have h8_ := eqb_t h8q
   have h8__ := neb_f h8q
   have F4 := And.intro F3 (And.intro h8_ (And.intro h8__ h8q))
   refine CT (by simp [-List.reduceReplicate, sOf_set, ofI_set, allU8_set, F4] <;> omega) ?_
   refine SQ [] [none, none, none] fun _ _ g r => ?_
   try simp [-List.reduceReplicate, sOf_set, ofI_set, allU8_set, F4]
   and_intros <;> first | exact g _ (by kernel_rfl) | refine r _ _ _ ?_ | omega | (simp [-List.reduceReplicate, sOf_set, ofI_set, allU8_set, maxLen, F4] <;> omega)
   refine WK [(2, AV.slc 1 0 1 v5.length true), (3, Iz 0)] [(1, .cells (List.map (AV.int .i64) v5))] 3 (by simp [-List.reduceReplicate, sOf_set, ofI_set, allU8_set, F4]) (by simp [-List.reduceReplicate, sOf_set, ofI_set, allU8_set, F4]) ?_
   refine WK [(2, AV.slc 1 0 1 v5.length true), (3, Iz 0)] [(1, .cells (List.map (AV.int .i64) v5))] 3 (by simp [-List.reduceReplicate, sOf_set, ofI_set, allU8_set, F4]) (by simp [-List.reduceReplicate, sOf_set, ofI_set, allU8_set, F4]) ?_
   refine AW.frz 1 (o := .cells (List.map (AV.int .i64) v5)) (by simp [-List.reduceReplicate, sOf_set, ofI_set, allU8_set, F4]) rfl [(2, AV.lst false true (List.map (AV.int .i64) v5))] [] ⟨(.l (by simp) (by simp) (by simp) (by simp)), trivial⟩ trivial ?_
   refine AW.flg [(2, Lz v5)] [] ⟨(.lst (by simp)), trivial⟩ trivial (by simp) ?_
   simp only [Option.some.injEq, Prod.mk.injEq] at hF
   obtain ⟨e0, e1⟩ := hF
   subst e0 e1
   refine AW.ret (hQ _ _ _ ?_ (matchO_0 ?_)).1
   ·simp [Try.f19, F4]
   ·simp [F4]
  ·replace hF := ite_f h8 hF
   have h8_ := eqb_f h8
   have h8__ := neb_t h8
   have F5 := And.intro F3 (And.intro h8 (And.intro h8_ h8__))
   refine CF (by simp [-List.reduceReplicate, sOf_set, ofI_set, allU8_set, F5] <;> omega) ?_
   refine AW.skip ?_
   refine hK762 _ _ _ ?_
   refine SQ [] [none] fun _ _ g r => ?_
   try simp [-List.reduceReplicate, sOf_set, ofI_set, allU8_set, F5]
   and_intros <;> first | exact g _ (by kernel_rfl) | refine r _ _ _ ?_ | omega | (simp [-List.reduceReplicate, sOf_set, ofI_set, allU8_set, maxLen, F5] <;> omega)
   refine WK [(1, AV.ptr 0 0), (4, AV.slc 1 0 1 v5.length true), (5, Lz v6), (6, Iz 1048576)] [(0, .cells [Iz v0, AV.lst false false (List.map api_Arc.av v1)]), (1, .cells (List.map (AV.int .i64) v5))] 3 (by simp [-List.reduceReplicate, sOf_set, ofI_set, allU8_set, F5]) (by simp [-List.reduceReplicate, sOf_set, ofI_set, allU8_set, F5]) ?_
   refine AW.seq fun K796 hK796 => ?_
   refine SQ [] [none] fun _ _ g r => ?_
   try simp [-List.reduceReplicate, sOf_set, ofI_set, allU8_set, F5]
   and_intros <;> first | exact g _ (by kernel_rfl) | refine r _ _ _ ?_ | omega | (simp [-List.reduceReplicate, sOf_set, ofI_set, allU8_set, maxLen, F5] <;> omega)
   refine WK [(1, AV.ptr 0 0), (4, AV.slc 1 0 1 v5.length true), (5, Lz v6), (6, Iz 1048576), (7, Iz 1)] [(0, .cells [Iz v0, AV.lst false false (List.map api_Arc.av v1)]), (1, .cells (List.map (AV.int .i64) v5))] 3 (by simp [-List.reduceReplicate, sOf_set, ofI_set, allU8_set, F5]) (by simp [-List.reduceReplicate, sOf_set, ofI_set, allU8_set, F5]) ?_
   refine AW.block ?_
   refine RM h0 [(0, 0), (1, 1)] [(1, AV.ptr 0 0), (4, AV.slc 1 0 1 v5.length true), (5, Lz v6), (6, Iz 1048576), (7, Iz 1)] [(0, .cells [Iz v0, AV.lst false false (List.map api_Arc.av v1)]), (1, .cells (List.map (AV.int .i64) v5))] 2 (by simp [-List.reduceReplicate, sOf_set, ofI_set, allU8_set, F5]) (by simp [-List.reduceReplicate, sOf_set, ofI_set, allU8_set, F5]) ?_
   refine AW.loopF (α := (Int × Int)) (fun n (v8, v9) => ref15_Max.L2 k v1 v5 v6 (fun v5_ => ref15_Max.L1 k v0 v1 n1 v5_) n v8 v9 = some (v2, v3)) (fun (v8, v9) => [(1, AV.ptr 0 0), (4, AV.slc 1 0 1 v5.length true), (5, Lz v6), (6, Iz v8), (7, Iz v9)]) (fun (v8, v9) => [(0, .cells [Iz v0, AV.lst false false (List.map api_Arc.av v1)]), (1, .cells (List.map (AV.int .i64) v5))]) 2 k ((1048576, 1)) hF (by simp [-List.reduceReplicate, sOf_set, ofI_set, allU8_set, F5]) (by simp [-List.reduceReplicate, sOf_set, ofI_set, allU8_set, F5]) (by simp) ?_
   rintro (_|n2) ⟨v8, v9⟩ hF K819 hK819
   ·try dsimp only at hF
    rw [ref15_Max.L2] at hF; cases hF
   try dsimp only at hF
   rw [ref15_Max.L2] at hF
   refine AW.seq fun K821 hK821 => ?_
   refine SQ [] [none, none] fun _ _ g r => ?_
   try simp [-List.reduceReplicate, sOf_set, ofI_set, allU8_set, F5]
   and_intros <;> first | exact g _ (by kernel_rfl) | refine r _ _ _ ?_ | omega | (simp [-List.reduceReplicate, sOf_set, ofI_set, allU8_set, maxLen, F5] <;> omega)
   refine WK [(1, AV.ptr 0 0), (4, AV.slc 1 0 1 v5.length true), (5, Lz v6), (6, Iz v8), (7, Iz v9), (27, AV.bool (v9 != 0))] [(0, .cells [Iz v0, AV.lst false false (List.map api_Arc.av v1)]), (1, .cells (List.map (AV.int .i64) v5))] 2 (by simp [-List.reduceReplicate, sOf_set, ofI_set, allU8_set, F5]) (by simp [-List.reduceReplicate, sOf_set, ofI_set, allU8_set, F5]) ?_
   by_cases h9 : v9 ≠ 0
   ·replace hF := ite_t h9 hF
    have h9_ := eqb_f h9
    have h9__ := neb_t h9
    refine CT (by simp [-List.reduceReplicate, sOf_set, ofI_set, allU8_set, F5, h9, h9_, h9__] <;> omega) ?_
    refine AW.skip ?_
    refine hK821 _ _ _ ?_
    refine AW.block ?_
    refine SQ [] [none, none, none, none, none] fun _ _ g r => ?_
    obtain ⟨v10, h10, h11, h12, hF⟩ := idx_elim hF
    have h12_ := get_of h12
    try simp [-List.reduceReplicate] at h12_
    have h11_ := h11
    try simp [-List.reduceReplicate] at h11_
    have F6 := And.intro F5 (And.intro h9 (And.intro h9_ (And.intro h9__ (And.intro h10 (And.intro h11 (And.intro h12 (And.intro h12_ h11_)))))))
    try simp [-List.reduceReplicate, sOf_set, ofI_set, allU8_set, F6]
    and_intros <;> first | exact g _ (by kernel_rfl) | refine r _ _ _ ?_ | omega | (simp [-List.reduceReplicate, sOf_set, ofI_set, allU8_set, maxLen, F6] <;> omega)
    refine WK [(1, AV.ptr 0 0), (4, AV.slc 1 0 1 v5.length true), (5, Lz v6), (6, Iz v8), (8, Iz v10)] [(0, .cells [Iz v0, AV.lst false false (List.map api_Arc.av v1)]), (1, .cells (List.map (AV.int .i64) v5))] 2 (by simp [-List.reduceReplicate, sOf_set, ofI_set, allU8_set, F6]) (by simp [-List.reduceReplicate, sOf_set, ofI_set, allU8_set, F6]) ?_
    refine SQ [] [none, none] fun _ _ g r => ?_
    try simp [-List.reduceReplicate, sOf_set, ofI_set, allU8_set, F6]
    and_intros <;> first | exact g _ (by kernel_rfl) | refine r _ _ _ ?_ | omega | (simp [-List.reduceReplicate, sOf_set, ofI_set, allU8_set, maxLen, F6] <;> omega)
    refine WK [(1, AV.ptr 0 0), (4, AV.slc 1 0 1 v5.length true), (5, Lz v6), (6, Iz v8), (8, Iz v10), (33, AV.bool (decide (0 < v10)))] [(0, .cells [Iz v0, AV.lst false false (List.map api_Arc.av v1)]), (1, .cells (List.map (AV.int .i64) v5))] 2 (by simp [-List.reduceReplicate, sOf_set, ofI_set, allU8_set, F6]) (by simp [-List.reduceReplicate, sOf_set, ofI_set, allU8_set, F6]) ?_
    by_cases h13 : 0 < v10
    ·replace hF := ite_t h13 hF
     have h13_ := h13
     try simp [-List.reduceReplicate] at h13_
     have F7 := And.intro F6 (And.intro h13 h13_)
     refine CT (by simp [-List.reduceReplicate, sOf_set, ofI_set, allU8_set, F7] <;> omega) ?_
     refine RG [] [none, none, none, none, none, none, none, none, none, none, none, none, none, none, none, none, none, none, none, none, none, none, none, none] fun _ _ g r => ?_
     obtain ⟨v11, h14, h15, h16, hF⟩ := idx_elim hF
     have h16_ := get_of h16
     try simp [-List.reduceReplicate] at h16_
     have h15_ := h15
     try simp [-List.reduceReplicate] at h15_
     obtain ⟨⟨h17, h18⟩, hF⟩ := chk_elim hF
     have h18_ := ne_of_lt h18
     obtain ⟨v12, h19, h20, h21, hF⟩ := idx_elim hF
     have h21_ := get_of h21
     try simp [-List.reduceReplicate] at h21_
     have h20_ := h20
     try simp [-List.reduceReplicate] at h20_
     obtain ⟨v13, h22, hF⟩ := let1_elim hF
     have h22_ := h22
     try simp [-List.reduceReplicate] at h22_
     have F8 := And.intro F7 (And.intro h14 (And.intro h15 (And.intro h16 (And.intro h16_ (And.intro h15_ (And.intro h17 (And.intro h18 (And.intro h18_ (And.intro h19 (And.intro h20 (And.intro h21 (And.intro h21_ (And.intro h20_ (And.intro h22 h22_))))))))))))))
     try simp [-List.reduceReplicate, sOf_set, ofI_set, allU8_set, F8]
     and_intros <;> first | exact g _ (by kernel_rfl) | refine r _ _ _ ?_ | omega | (simp [-List.reduceReplicate, sOf_set, ofI_set, allU8_set, maxLen, F8] <;> omega)
     refine hK819 _ _ _ ?_
     exact NX (k' := n2) ((v13, v11.From)) hF (by simp [-List.reduceReplicate, sOf_set, ofI_set, allU8_set, F8]) (by simp [-List.reduceReplicate, sOf_set, ofI_set, allU8_set, F8])
    ·replace hF := ite_f h13 hF
     have h13_ := h13
     try simp [-List.reduceReplicate] at h13_
     have F9 := And.intro F6 (And.intro h13 h13_)
     refine CF (by simp [-List.reduceReplicate, sOf_set, ofI_set, allU8_set, F9] <;> omega) ?_
     refine RG [] [none, none, none, none, none, none, none, none, none, none, none, none, none, none, none, none, none, none] fun _ _ g r => ?_
     obtain ⟨⟨h23, h24⟩, hF⟩ := chk_elim hF
     have h24_ := ne_of_lt h24
     obtain ⟨v14, h25, h26, h27, hF⟩ := idx_elim hF
     have h27_ := get_of h27
     try simp [-List.reduceReplicate] at h27_
     have h26_ := h26
     try simp [-List.reduceReplicate] at h26_
     obtain ⟨v15, h28, hF⟩ := let1_elim hF
     have h28_ := h28
     try simp [-List.reduceReplicate] at h28_
     obtain ⟨v16, h29, h30, h31, hF⟩ := idx_elim hF
     have h31_ := get_of h31
     try simp [-List.reduceReplicate] at h31_
     have h30_ := h30
     try simp [-List.reduceReplicate] at h30_
     have F10 := And.intro F9 (And.intro h23 (And.intro h24 (And.intro h24_ (And.intro h25 (And.intro h26 (And.intro h27 (And.intro h27_ (And.intro h26_ (And.intro h28 (And.intro h28_ (And.intro h29 (And.intro h30 (And.intro h31 (And.intro h31_ h30_))))))))))))))
     try simp [-List.reduceReplicate, sOf_set, ofI_set, allU8_set, F10]
     and_intros <;> first | exact g _ (by kernel_rfl) | refine r _ _ _ ?_ | omega | (simp [-List.reduceReplicate, sOf_set, ofI_set, allU8_set, maxLen, F10] <;> omega)
     refine hK819 _ _ _ ?_
     exact NX (k' := n2) ((v15, v16.To)) hF (by simp [-List.reduceReplicate, sOf_set, ofI_set, allU8_set, F10]) (by simp [-List.reduceReplicate, sOf_set, ofI_set, allU8_set, F10])
   ·replace hF := ite_f h9 hF
    have h9q : v9 = 0 := Classical.not_not.1 h9
    have h9_ := eqb_t h9q
    have h9__ := neb_f h9q
    have F11 := And.intro F5 (And.intro h9_ (And.intro h9__ h9q))
    refine CF (by simp [-List.reduceReplicate, sOf_set, ofI_set, allU8_set, F11] <;> omega) ?_
    refine AW.exit ?_
    try simp [-List.reduceReplicate]
    refine hK796 _ _ _ ?_
    refine SQ [] [none] fun _ _ g r => ?_
    try simp [-List.reduceReplicate, sOf_set, ofI_set, allU8_set, F11]
    and_intros <;> first | exact g _ (by kernel_rfl) | refine r _ _ _ ?_ | omega | (simp [-List.reduceReplicate, sOf_set, ofI_set, allU8_set, maxLen, F11] <;> omega)
    refine WK [(1, AV.ptr 0 0), (4, AV.slc 1 0 1 v5.length true), (5, Lz v6), (6, Iz v8), (9, Iz 1)] [(0, .cells [Iz v0, AV.lst false false (List.map api_Arc.av v1)]), (1, .cells (List.map (AV.int .i64) v5))] 2 (by simp [-List.reduceReplicate, sOf_set, ofI_set, allU8_set, F11]) (by simp [-List.reduceReplicate, sOf_set, ofI_set, allU8_set, F11]) ?_
    refine AW.block ?_
    refine AW.loopF (α := (Int × (List Int))) (fun n (v17, v18) => ref15_Max.L3 k v1 v6 v8 (fun v5_ => ref15_Max.L1 k v0 v1 n1 v5_) n v17 v18 = some (v2, v3)) (fun (v17, v18) => [(1, AV.ptr 0 0), (4, AV.slc 1 0 1 v18.length true), (5, Lz v6), (6, Iz v8), (9, Iz v17)]) (fun (v17, v18) => [(0, .cells [Iz v0, AV.lst false false (List.map api_Arc.av v1)]), (1, .cells (List.map (AV.int .i64) v18))]) 2 k ((1, v5)) hF (by simp [-List.reduceReplicate, sOf_set, ofI_set, allU8_set, F11]) (by simp [-List.reduceReplicate, sOf_set, ofI_set, allU8_set, F11]) (by simp) ?_
    rintro (_|n3) ⟨v17, v18⟩ hF K855 hK855
    ·try dsimp only at hF
     rw [ref15_Max.L3] at hF; cases hF
    try dsimp only at hF
    rw [ref15_Max.L3] at hF
    refine AW.seq fun K857 hK857 => ?_
    refine SQ [] [none, none] fun _ _ g r => ?_
    try simp [-List.reduceReplicate, sOf_set, ofI_set, allU8_set, F11]
    and_intros <;> first | exact g _ (by kernel_rfl) | refine r _ _ _ ?_ | omega | (simp [-List.reduceReplicate, sOf_set, ofI_set, allU8_set, maxLen, F11] <;> omega)
    refine WK [(1, AV.ptr 0 0), (4, AV.slc 1 0 1 v18.length true), (5, Lz v6), (6, Iz v8), (9, Iz v17), (73, AV.bool (v17 != 0))] [(0, .cells [Iz v0, AV.lst false false (List.map api_Arc.av v1)]), (1, .cells (List.map (AV.int .i64) v18))] 2 (by simp [-List.reduceReplicate, sOf_set, ofI_set, allU8_set, F11]) (by simp [-List.reduceReplicate, sOf_set, ofI_set, allU8_set, F11]) ?_
    by_cases h32 : v17 ≠ 0
    ·replace hF := ite_t h32 hF
     have h32_ := eqb_f h32
     have h32__ := neb_t h32
     refine CT (by simp [-List.reduceReplicate, sOf_set, ofI_set, allU8_set, F11, h32, h32_, h32__] <;> omega) ?_
     refine AW.skip ?_
     refine hK857 _ _ _ ?_
     refine AW.block ?_
     refine SQ [] [none, none, none, none, none] fun _ _ g r => ?_
     obtain ⟨v19, h33, h34, h35, hF⟩ := idx_elim hF
     have h35_ := get_of h35
     try simp [-List.reduceReplicate] at h35_
     have h34_ := h34
     try simp [-List.reduceReplicate] at h34_
     have F12 := And.intro F11 (And.intro h32 (And.intro h32_ (And.intro h32__ (And.intro h33 (And.intro h34 (And.intro h35 (And.intro h35_ h34_)))))))
     try simp [-List.reduceReplicate, sOf_set, ofI_set, allU8_set, F12]
     and_intros <;> first | exact g _ (by kernel_rfl) | refine r _ _ _ ?_ | omega | (simp [-List.reduceReplicate, sOf_set, ofI_set, allU8_set, maxLen, F12] <;> omega)
     refine WK [(1, AV.ptr 0 0), (4, AV.slc 1 0 1 v18.length true), (5, Lz v6), (6, Iz v8), (10, Iz v19)] [(0, .cells [Iz v0, AV.lst false false (List.map api_Arc.av v1)]), (1, .cells (List.map (AV.int .i64) v18))] 2 (by simp [-List.reduceReplicate, sOf_set, ofI_set, allU8_set, F12]) (by simp [-List.reduceReplicate, sOf_set, ofI_set, allU8_set, F12]) ?_
     refine SQ [] [none, none] fun _ _ g r => ?_
     try simp [-List.reduceReplicate, sOf_set, ofI_set, allU8_set, F12]
     and_intros <;> first | exact g _ (by kernel_rfl) | refine r _ _ _ ?_ | omega | (simp [-List.reduceReplicate, sOf_set, ofI_set, allU8_set, maxLen, F12] <;> omega)
     refine WK [(1, AV.ptr 0 0), (4, AV.slc 1 0 1 v18.length true), (5, Lz v6), (6, Iz v8), (10, Iz v19), (79, AV.bool (decide (0 < v19)))] [(0, .cells [Iz v0, AV.lst false false (List.map api_Arc.av v1)]), (1, .cells (List.map (AV.int .i64) v18))] 2 (by simp [-List.reduceReplicate, sOf_set, ofI_set, allU8_set, F12]) (by simp [-List.reduceReplicate, sOf_set, ofI_set, allU8_set, F12]) ?_
     by_cases h36 : 0 < v19
     ·replace hF := ite_t h36 hF
      have h36_ := h36
      try simp [-List.reduceReplicate] at h36_
      have F13 := And.intro F12 (And.intro h36 h36_)
      refine CT (by simp [-List.reduceReplicate, sOf_set, ofI_set, allU8_set, F13] <;> omega) ?_
      refine SQ [] [none, none, none, none, none, none, none, none, none] fun _ _ g r => ?_
      obtain ⟨⟨h37, h38⟩, hF⟩ := chk_elim hF
      have h38_ := ne_of_lt h38
      obtain ⟨v20, h39, h40, h41, hF⟩ := idx_elim hF
      have h41_ := get_of h41
      try simp [-List.reduceReplicate] at h41_
      have h40_ := h40
      try simp [-List.reduceReplicate] at h40_
      obtain ⟨⟨h42, h43⟩, hF⟩ := chk_elim hF
      have h43_ := ne_of_lt h43
      have F14 := And.intro F13 (And.intro h37 (And.intro h38 (And.intro h38_ (And.intro h39 (And.intro h40 (And.intro h41 (And.intro h41_ (And.intro h40_ (And.intro h42 (And.intro h43 h43_))))))))))
      try simp [-List.reduceReplicate, sOf_set, ofI_set, allU8_set, F14]
      and_intros <;> first | exact g _ (by kernel_rfl) | refine r _ _ _ ?_ | omega | (simp [-List.reduceReplicate, sOf_set, ofI_set, allU8_set, maxLen, F14] <;> omega)
      refine WK [(1, AV.ptr 0 0), (4, AV.slc 1 0 1 ((v18.set (IntKind.wrap .i64 (v19 - 1)).toNat (IntKind.wrap .i64 (v20 + v8))).length) true), (5, Lz v6), (6, Iz v8), (10, Iz v19)] [(0, .cells [Iz v0, AV.lst false false (List.map api_Arc.av v1)]), (1, .cells (List.map (AV.int .i64) (v18.set (IntKind.wrap .i64 (v19 - 1)).toNat (IntKind.wrap .i64 (v20 + v8)))))] 2 (by simp [-List.reduceReplicate, sOf_set, ofI_set, allU8_set, F14]) (by simp [-List.reduceReplicate, sOf_set, ofI_set, allU8_set, F14]) ?_
      refine RG [] [none, none, none, none, none, none, none, none] fun _ _ g r => ?_
      obtain ⟨v21, h44, h45, h46, hF⟩ := idx_elim hF
      have h46_ := get_of h46
      try simp [-List.reduceReplicate] at h46_
      have h45_ := h45
      try simp [-List.reduceReplicate] at h45_
      have F15 := And.intro F14 (And.intro h44 (And.intro h45 (And.intro h46 (And.intro h46_ h45_))))
      try simp [-List.reduceReplicate, sOf_set, ofI_set, allU8_set, F15]
      and_intros <;> first | exact g _ (by kernel_rfl) | refine r _ _ _ ?_ | omega | (simp [-List.reduceReplicate, sOf_set, ofI_set, allU8_set, maxLen, F15] <;> omega)
      refine hK855 _ _ _ ?_
      exact NX (k' := n3) ((v21.From, v18.set (IntKind.wrap .i64 (v19 - 1)).toNat (IntKind.wrap .i64 (v20 + v8)))) hF (by simp [-List.reduceReplicate, sOf_set, ofI_set, allU8_set, F15]) (by simp [-List.reduceReplicate, sOf_set, ofI_set, allU8_set, F15])
     ·replace hF := ite_f h36 hF
      have h36_ := h36
      try simp [-List.reduceReplicate] at h36_
      have F16 := And.intro F12 (And.intro h36 h36_)
      refine CF (by simp [-List.reduceReplicate, sOf_set, ofI_set, allU8_set, F16] <;> omega) ?_
      refine SQ [] [none, none, none, none, none, none, none, none, none, none] fun _ _ g r => ?_
      obtain ⟨⟨h47, h48⟩, hF⟩ := chk_elim hF
      have h48_ := ne_of_lt h48
      obtain ⟨v22, h49, h50, h51, hF⟩ := idx_elim hF
      have h51_ := get_of h51
      try simp [-List.reduceReplicate] at h51_
      have h50_ := h50
      try simp [-List.reduceReplicate] at h50_
      obtain ⟨⟨h52, h53⟩, hF⟩ := chk_elim hF
      have h53_ := ne_of_lt h53
      have F17 := And.intro F16 (And.intro h47 (And.intro h48 (And.intro h48_ (And.intro h49 (And.intro h50 (And.intro h51 (And.intro h51_ (And.intro h50_ (And.intro h52 (And.intro h53 h53_))))))))))
      try simp [-List.reduceReplicate, sOf_set, ofI_set, allU8_set, F17]
      and_intros <;> first | exact g _ (by kernel_rfl) | refine r _ _ _ ?_ | omega | (simp [-List.reduceReplicate, sOf_set, ofI_set, allU8_set, maxLen, F17] <;> omega)
      refine WK [(1, AV.ptr 0 0), (4, AV.slc 1 0 1 ((v18.set (IntKind.wrap .i64 (IntKind.wrap .i64 (-v19) - 1)).toNat (IntKind.wrap .i64 (v22 - v8))).length) true), (5, Lz v6), (6, Iz v8), (10, Iz v19)] [(0, .cells [Iz v0, AV.lst false false (List.map api_Arc.av v1)]), (1, .cells (List.map (AV.int .i64) (v18.set (IntKind.wrap .i64 (IntKind.wrap .i64 (-v19) - 1)).toNat (IntKind.wrap .i64 (v22 - v8)))))] 2 (by simp [-List.reduceReplicate, sOf_set, ofI_set, allU8_set, F17]) (by simp [-List.reduceReplicate, sOf_set, ofI_set, allU8_set, F17]) ?_
      refine RG [] [none, none, none, none, none, none, none, none, none] fun _ _ g r => ?_
      obtain ⟨v23, h54, h55, h56, hF⟩ := idx_elim hF
      have h56_ := get_of h56
      try simp [-List.reduceReplicate] at h56_
      have h55_ := h55
      try simp [-List.reduceReplicate] at h55_
      have F18 := And.intro F17 (And.intro h54 (And.intro h55 (And.intro h56 (And.intro h56_ h55_))))
      try simp [-List.reduceReplicate, sOf_set, ofI_set, allU8_set, F18]
      and_intros <;> first | exact g _ (by kernel_rfl) | refine r _ _ _ ?_ | omega | (simp [-List.reduceReplicate, sOf_set, ofI_set, allU8_set, maxLen, F18] <;> omega)
      refine hK855 _ _ _ ?_
      exact NX (k' := n3) ((v23.To, v18.set (IntKind.wrap .i64 (IntKind.wrap .i64 (-v19) - 1)).toNat (IntKind.wrap .i64 (v22 - v8)))) hF (by simp [-List.reduceReplicate, sOf_set, ofI_set, allU8_set, F18]) (by simp [-List.reduceReplicate, sOf_set, ofI_set, allU8_set, F18])
    ·replace hF := ite_f h32 hF
     have h32q : v17 = 0 := Classical.not_not.1 h32
     have h32_ := eqb_t h32q
     have h32__ := neb_f h32q
     have F19 := And.intro F11 (And.intro h32_ (And.intro h32__ h32q))
     refine CF (by simp [-List.reduceReplicate, sOf_set, ofI_set, allU8_set, F19] <;> omega) ?_
     refine AW.exit ?_
     try simp [-List.reduceReplicate]
     refine hK758 _ _ _ ?_
     exact NX (k' := n1) (v18) hF (by simp [-List.reduceReplicate, sOf_set, ofI_set, allU8_set, F19]) (by simp [-List.reduceReplicate, sOf_set, ofI_set, allU8_set, F19])
theorem w_ref16_Nearest (k : Nat) (v0 : Int) (v1 : (List api_Arc)) (v2 : (List Int)) (v3 : Int) (hF : ref16_Nearest k v0 v1 = some (v2, v3)) :
  FCall Try.prog 45 [AV.agg [AV.int .i64 v0, AV.lst false false (List.map api_Arc.av v1)]] [] (AV.tup [AV.lst false false (List.map (AV.int .i64) v2), AV.int .i64 v3]) [] := by
 unfold ref16_Nearest at hF
 refine EN Try.func45 ?_
 intro c0 w0 Q h0 hQ
 refine WK [(0, AV.agg [Iz v0, AV.lst false false (List.map api_Arc.av v1)])] [] 0 (by simp) (by simp) ?_
 refine SQ [] [none, none, none] fun _ _ g r => ?_
 try simp
 and_intros <;> first | exact g _ (by kernel_rfl) | refine r _ _ _ ?_ | omega | (simp [maxLen] <;> omega)
 refine WK [(1, AV.ptr 0 0)] [(0, .cells [Iz v0, AV.lst false false (List.map api_Arc.av v1)])] 1 (by simp) (by simp) ?_
 refine SQ [] [none, none, none, none, none, none, none] fun _ _ g r => ?_
 try simp
 and_intros
 try any_goals first | omega | (simp [maxLen] <;> omega)
 obtain ⟨v4, v5, h1, hF⟩ := bnd2_elim hF
 refine AC (w_ref15_Max k _ _ _ _ h1) (.cons (.same (by simp)) .nil) ?_
 try simp
 and_intros <;> first | exact g _ (by kernel_rfl) | refine r _ _ _ ?_ | omega | (simp [maxLen] <;> omega)
 refine WK [(1, AV.ptr 0 0), (4, Lz v4), (5, Iz v5)] [(0, .cells [Iz v0, AV.lst false false (List.map api_Arc.av v1)])] 1 (by simp) (by simp) ?_
 refine AW.seq fun K92 hK92 => ?_
 refine SQ [] [none, none] fun _ _ g r => ?_
 try simp
 and_intros <;> first | exact g _ (by kernel_rfl) | refine r _ _ _ ?_ | omega | (simp [maxLen] <;> omega)
 refine WK [(1, AV.ptr 0 0), (4, Lz v4), (5, Iz v5), (15, AV.bool (v5 != 0))] [(0, .cells [Iz v0, AV.lst false false (List.map api_Arc.av v1)])] 1 (by simp) (by simp) ?_
 by_cases h2 : v5 ≠ 0
 ·replace hF := ite_t h2 hF
  have h2_ := eqb_f h2
  have h2__ := neb_t h2
  have F1 := And.intro h2 (And.intro h2_ h2__)
  refine CT (by simp [F1] <;> omega) ?_
  refine SQ [] [none, none, none] fun _ _ g r => ?_
  try simp [F1]
  and_intros <;> first | exact g _ (by kernel_rfl) | refine r _ _ _ ?_ | omega | (simp [maxLen, F1] <;> omega)
  refine WK [(2, AV.lst true true (List.map (AV.int .i64) ([] : List Int))), (3, Iz v5)] [] 1 (by simp [F1]) (by simp [F1]) ?_
  refine AW.flg [(2, Lz ([] : List Int))] [] ⟨(.lst (by simp)), trivial⟩ trivial (by simp) ?_
  simp only [Option.some.injEq, Prod.mk.injEq] at hF
  obtain ⟨e0, e1⟩ := hF
  subst e0 e1
  refine AW.ret (hQ _ _ _ ?_ (matchO_0 ?_)).1
  ·simp [Try.f45, F1]
  ·simp [F1]
 ·replace hF := ite_f h2 hF
  have h2q : v5 = 0 := Classical.not_not.1 h2
  have h2_ := eqb_t h2q
  have h2__ := neb_f h2q
  have F2 := And.intro h2_ (And.intro h2__ h2q)
  refine CF (by simp [F2] <;> omega) ?_
  refine AW.skip ?_
  refine hK92 _ _ _ ?_
  refine SQ [] [none, none, none, none] fun _ _ g r => ?_
  try simp [F2]
  and_intros
  try any_goals first | omega | (simp [maxLen, F2] <;> omega)
  obtain ⟨v6, h3, hF⟩ := bnd1_elim hF
  refine AC (w_ref15_Residual k _ _ _ _ h3) (.cons (.same (by simp [F2])) (.cons (.same (by simp [F2])) .nil)) ?_
  try simp [F2]
  and_intros <;> first | exact g _ (by kernel_rfl) | refine r _ _ _ ?_ | omega | (simp [maxLen, F2] <;> omega)
  refine WK [(1, AV.ptr 0 0), (6, AV.slc 1 0 1 v6.length false)] [(0, .cells [Iz v0, AV.lst false false (List.map api_Arc.av v1)]), (1, .cells (List.map (AV.int .i64) v6))] 2 (by simp [F2]) (by simp [F2]) ?_
  refine AW.frz 1 (o := .cells (List.map (AV.int .i64) v6)) (by simp [F2]) rfl [(6, Lz v6)] [] ⟨(.l (by simp) (by simp) (by simp) (by simp)), trivial⟩ trivial ?_
  refine WK [(1, AV.ptr 0 0), (6, Lz v6)] [(0, .cells [Iz v0, AV.lst false false (List.map api_Arc.av v1)])] 2 (by simp [F2]) (by simp [F2]) ?_
  refine SQ [20] [none, none] fun _ _ g r => ?_
  try simp [F2]
  and_intros <;> first | exact g _ (by kernel_rfl) | refine r _ _ _ ?_ | omega | (simp [maxLen, F2] <;> omega)
  refine WK [(1, AV.ptr 0 0), (6, Lz v6), (7, AV.slc 2 0 1 (([0] : List Int).length) true)] [(0, .cells [Iz v0, AV.lst false false (List.map api_Arc.av v1)]), (2, .cells (List.map (AV.int .i64) ([0] : List Int)))] 3 (by simp [F2]) (by simp [F2]) ?_
  refine AW.seq fun K135 hK135 => ?_
  refine SQ [] [none] fun _ _ g r => ?_
  try simp [F2]
  and_intros <;> first | exact g _ (by kernel_rfl) | refine r _ _ _ ?_ | omega | (simp [maxLen, F2] <;> omega)
  refine WK [(1, AV.ptr 0 0), (6, Lz v6), (7, AV.slc 2 0 1 (([0] : List Int).length) true), (8, Iz 1)] [(0, .cells [Iz v0, AV.lst false false (List.map api_Arc.av v1)]), (2, .cells (List.map (AV.int .i64) ([0] : List Int)))] 3 (by simp [F2]) (by simp [F2]) ?_
  refine AW.block ?_
  refine RM h0 [(0, 0), (1, 2)] [(1, AV.ptr 0 0), (6, Lz v6), (7, AV.slc 1 0 1 (([0] : List Int).length) true), (8, Iz 1)] [(0, .cells [Iz v0, AV.lst false false (List.map api_Arc.av v1)]), (1, .cells (List.map (AV.int .i64) ([0] : List Int)))] 2 (by simp [F2]) (by simp [F2]) ?_
  refine AW.flg [(7, AV.slc 1 0 1 (([0] : List Int).length) false)] [] ⟨.slc, trivial⟩ trivial (by simp) ?_
  refine AW.loopF (α := (Int × (List Int))) (fun n (v7, v8) => ref16_Nearest.L1 k v0 v6 n v7 v8 = some (v2, v3)) (fun (v7, v8) => [(1, AV.ptr 0 0), (6, Lz v6), (7, AV.slc 1 0 1 v8.length false), (8, Iz v7)]) (fun (v7, v8) => [(0, .cells [Iz v0, AV.lst false false (List.map api_Arc.av v1)]), (1, .cells (List.map (AV.int .i64) v8))]) 2 k ((1, ([0] : List Int))) hF (by simp [F2]) (by simp [F2]) (by simp) ?_
  rintro (_|n1) ⟨v7, v8⟩ hF K164 hK164
  ·try dsimp only at hF
   rw [ref16_Nearest.L1] at hF; cases hF
  try dsimp only at hF
  rw [ref16_Nearest.L1] at hF
  refine AW.seq fun K166 hK166 => ?_
  refine SQ [] [none, none, none, none] fun _ _ g r => ?_
  try simp [F2]
  and_intros <;> first | exact g _ (by kernel_rfl) | refine r _ _ _ ?_ | omega | (simp [maxLen, F2] <;> omega)
  refine WK [(1, AV.ptr 0 0), (6, Lz v6), (7, AV.slc 1 0 1 v8.length false), (8, Iz v7), (24, AV.bool (decide (v7 < v0)))] [(0, .cells [Iz v0, AV.lst false false (List.map api_Arc.av v1)]), (1, .cells (List.map (AV.int .i64) v8))] 2 (by simp [F2]) (by simp [F2]) ?_
  by_cases h4 : v7 < v0
  ·replace hF := ite_t h4 hF
   have h4_ := h4
   try simp at h4_
   have F3 := And.intro F2 (And.intro h4 h4_)
   refine CT (by simp [F3] <;> omega) ?_
   refine AW.skip ?_
   refine hK166 _ _ _ ?_
   refine AW.midF (α := (List Int)) (fun v9 => ref16_Nearest.J2 k v7 (fun v7_ v8_ => ref16_Nearest.L1 k v0 v6 n1 v7_ v8_) v9 = some (v2, v3)) (fun v9 => [(1, AV.ptr 0 0), (6, Lz v6), (7, AV.slc 1 0 1 v9.length false), (8, Iz v7)]) (fun v9 => [(0, .cells [Iz v0, AV.lst false false (List.map api_Arc.av v1)]), (1, .cells (List.map (AV.int .i64) v9))]) 2 (fun K171 hK171 => ?_) ?_
   ·refine AW.block ?_
    refine SQ [] [none, none, none, none, none] fun _ _ g r => ?_
    obtain ⟨v10, h5, h6, h7, hF⟩ := idx_elim hF
    have h7_ := get_of h7
    try simp at h7_
    have h6_ := h6
    try simp at h6_
    have F4 := And.intro F3 (And.intro h5 (And.intro h6 (And.intro h7 (And.intro h7_ h6_))))
    try simp [F4]
    and_intros <;> first | exact g _ (by kernel_rfl) | refine r _ _ _ ?_ | omega | (simp [maxLen, F4] <;> omega)
    refine WK [(1, AV.ptr 0 0), (6, Lz v6), (7, AV.slc 1 0 1 v8.length false), (8, Iz v7), (31, AV.bool (v10 != 0))] [(0, .cells [Iz v0, AV.lst false false (List.map api_Arc.av v1)]), (1, .cells (List.map (AV.int .i64) v8))] 2 (by simp [F4]) (by simp [F4]) ?_
    by_cases h8 : v10 ≠ 0
    ·replace hF := ite_t h8 hF
     have h8_ := eqb_f h8
     have h8__ := neb_t h8
     refine CT (by simp [F4, h8, h8_, h8__] <;> omega) ?_
     refine RG [] [none, none, none, none, none] fun _ _ g r => ?_
     obtain ⟨h9, hF⟩ := chk_elim hF
     have h9_ := h9
     try simp at h9_
     have F5 := And.intro F4 (And.intro h8 (And.intro h8_ (And.intro h8__ h9)))
     try simp [F5]
     and_intros <;> first | exact g _ (by kernel_rfl) | refine r _ _ _ ?_ | omega | (simp [maxLen, F5] <;> omega)
     refine hK171 _ _ _ ?_
     refine RN h0 [(0, 0), (1, 2)] [(1, AV.ptr 0 0), (6, Lz v6), (7, AV.slc 1 0 1 ((v8 ++ ([v7] : List Int)).length) false), (8, Iz v7)] [(0, .cells [Iz v0, AV.lst false false (List.map api_Arc.av v1)]), (1, .cells (List.map (AV.int .i64) (v8 ++ ([v7] : List Int))))] 2 (by simp [F5] <;> omega) (by simp [F5]) ?_
     exact JN (v8 ++ ([v7] : List Int)) hF (by simp [F5]) (by simp [F5])
    ·replace hF := ite_f h8 hF
     have h8q : v10 = 0 := Classical.not_not.1 h8
     have h8_ := eqb_t h8q
     have h8__ := neb_f h8q
     have F6 := And.intro F4 (And.intro h8_ (And.intro h8__ h8q))
     refine CF (by simp [F6] <;> omega) ?_
     refine AW.skip ?_
     refine hK171 _ _ _ ?_
     exact JN (v8) hF (by simp [F6]) (by simp [F6])
   ·rintro v9 hF
    try dsimp only at hF
    unfold ref16_Nearest.J2 at hF
    refine RG [] [none, none, none] fun _ _ g r => ?_
    try simp [F3]
    and_intros <;> first | exact g _ (by kernel_rfl) | refine r _ _ _ ?_ | omega | (simp [maxLen, F3] <;> omega)
    refine hK164 _ _ _ ?_
    exact NX (k' := n1) ((IntKind.wrap .i64 (v7 + 1), v9)) hF (by simp [F3]) (by simp [F3])
  ·replace hF := ite_f h4 hF
   have h4_ := h4
   try simp at h4_
   have F7 := And.intro F2 (And.intro h4 h4_)
   refine CF (by simp [F7] <;> omega) ?_
   refine AW.exit ?_
   try simp
   refine hK135 _ _ _ ?_
   refine SQ [] [none, none, none] fun _ _ g r => ?_
   try simp [F7]
   and_intros <;> first | exact g _ (by kernel_rfl) | refine r _ _ _ ?_ | omega | (simp [maxLen, F7] <;> omega)
   refine WK [(2, AV.slc 1 0 1 v8.length false), (3, Iz 0)] [(1, .cells (List.map (AV.int .i64) v8))] 2 (by simp [F7]) (by simp [F7]) ?_
   refine WK [(2, AV.slc 1 0 1 v8.length false), (3, Iz 0)] [(1, .cells (List.map (AV.int .i64) v8))] 2 (by simp [F7]) (by simp [F7]) ?_
   refine AW.frz 1 (o := .cells (List.map (AV.int .i64) v8)) (by simp [F7]) rfl [(2, Lz v8)] [] ⟨(.l (by simp) (by simp) (by simp) (by simp)), trivial⟩ trivial ?_
   simp only [Option.some.injEq, Prod.mk.injEq] at hF
   obtain ⟨e0, e1⟩ := hF
   subst e0 e1
   refine AW.ret (hQ _ _ _ ?_ (matchO_0 ?_)).1
   ·simp [Try.f45, F7]
   ·simp [F7]
theorem w_ref03_SameInts (k : Nat) (v0 : (List Int)) (v1 : (List Int)) (v2 : Bool) (hF : ref03_SameInts k v0 v1 = some v2) :
  FCall Try.prog 46 [AV.lst false false (List.map (AV.int .i64) v0), AV.lst false false (List.map (AV.int .i64) v1)] [] (AV.bool v2) [] := by
 unfold ref03_SameInts at hF
 refine EN Try.func46 ?_
 intro c0 w0 Q h0 hQ
 refine WK [(0, Lz v0), (1, Lz v1)] [] 0 (by simp) (by simp) ?_
 refine SQ [] [none] fun _ _ g r => ?_
 try simp
 and_intros <;> first | exact g _ (by kernel_rfl) | refine r _ _ _ ?_ | omega | (simp [maxLen] <;> omega)
 refine WK [(0, Lz v0), (1, Lz v1)] [] 0 (by simp) (by simp) ?_
 refine AW.seq fun K88 hK88 => ?_
 refine SQ [] [none, none, none, none, none] fun _ _ g r => ?_
 try simp
 and_intros <;> first | exact g _ (by kernel_rfl) | refine r _ _ _ ?_ | omega | (simp [maxLen] <;> omega)
 refine WK [(0, Lz v0), (1, Lz v1), (10, AV.bool ((v0.length : Int) != (v1.length : Int)))] [] 0 (by simp) (by simp) ?_
 by_cases h1 : (v0.length : Int) ≠ (v1.length : Int)
 ·replace hF := ite_t h1 hF
  have h1_ := eqb_f h1
  have h1__ := neb_t h1
  have F1 := And.intro h1 (And.intro h1_ h1__)
  refine CT (by simp [F1] <;> omega) ?_
  refine SQ [] [none] fun _ _ g r => ?_
  try simp [F1]
  and_intros <;> first | exact g _ (by kernel_rfl) | refine r _ _ _ ?_ | omega | (simp [maxLen, F1] <;> omega)
  refine WK [(4, AV.bool false)] [] 0 (by simp [F1]) (by simp [F1]) ?_
  simp only [Option.some.injEq] at hF
  subst hF
  refine AW.ret (hQ _ _ _ ?_ (matchO_0 ?_)).1
  ·simp [Try.f46, F1]
  ·simp [F1]
 ·replace hF := ite_f h1 hF
  have h1q : (v0.length : Int) = (v1.length : Int) := Classical.not_not.1 h1
  have h1_ := eqb_t h1q
  have h1__ := neb_f h1q
  refine CF (by simp [h1_, h1__] <;> omega) ?_
  refine AW.skip ?_
  refine hK88 _ _ _ ?_
  refine AW.seq fun K129 hK129 => ?_
  refine SQ [] [none] fun _ _ g r => ?_
  try simp [h1_, h1__]
  and_intros <;> first | exact g _ (by kernel_rfl) | refine r _ _ _ ?_ | omega | (simp [h1_, h1__, maxLen] <;> omega)
  refine WK [(0, Lz v0), (1, Lz v1), (5, Iz 0)] [] 0 (by simp [h1_, h1__]) (by simp [h1_, h1__]) ?_
  refine AW.block ?_
  refine AW.loopF (α := Int) (fun n v3 => ref03_SameInts.L1 k v0 v1 n v3 = some v2) (fun v3 => [(0, Lz v0), (1, Lz v1), (5, Iz v3)]) (fun v3 => []) 0 k (0) hF (by simp [h1_, h1__]) (by simp [h1_, h1__]) (by simp) ?_
  rintro (_|n1) v3 hF K158 hK158
  ·try dsimp only at hF
   rw [ref03_SameInts.L1] at hF; cases hF
  try dsimp only at hF
  rw [ref03_SameInts.L1] at hF
  refine AW.seq fun K160 hK160 => ?_
  refine SQ [] [none, none, none, none] fun _ _ g r => ?_
  try simp [h1_, h1__]
  and_intros <;> first | exact g _ (by kernel_rfl) | refine r _ _ _ ?_ | omega | (simp [h1_, h1__, maxLen] <;> omega)
  refine WK [(0, Lz v0), (1, Lz v1), (5, Iz v3), (14, AV.bool (decide (v3 < (v0.length : Int))))] [] 0 (by simp [h1_, h1__]) (by simp [h1_, h1__]) ?_
  by_cases h2 : v3 < (v0.length : Int)
  ·replace hF := ite_t h2 hF
   have h2_ := h2
   try simp at h2_
   have F2 := And.intro h1_ (And.intro h1__ (And.intro h2 h2_))
   refine CT (by simp [F2] <;> omega) ?_
   refine AW.skip ?_
   refine hK160 _ _ _ ?_
   refine AW.seq fun K164 hK164 => ?_
   refine AW.block ?_
   refine SQ [] [none, none, none, none, none, none, none, none, none] fun _ _ g r => ?_
   obtain ⟨v4, h3, h4, h5, hF⟩ := idx_elim hF
   have h5_ := get_of h5
   try simp at h5_
   have h4_ := h4
   try simp at h4_
   obtain ⟨v5, h6, h7, h8, hF⟩ := idx_elim hF
   have h8_ := get_of h8
   try simp at h8_
   have h7_ := h7
   try simp at h7_
   have F3 := And.intro F2 (And.intro h3 (And.intro h4 (And.intro h5 (And.intro h5_ (And.intro h4_ (And.intro h6 (And.intro h7 (And.intro h8 (And.intro h8_ h7_)))))))))
   try simp [F3]
   and_intros <;> first | exact g _ (by kernel_rfl) | refine r _ _ _ ?_ | omega | (simp [maxLen, F3] <;> omega)
   refine WK [(0, Lz v0), (1, Lz v1), (5, Iz v3), (25, AV.bool (v4 != v5))] [] 0 (by simp [F3]) (by simp [F3]) ?_
   by_cases h9 : v4 ≠ v5
   ·replace hF := ite_t h9 hF
    have h9_ := eqb_f h9
    have h9__ := neb_t h9
    have F4 := And.intro F3 (And.intro h9 (And.intro h9_ h9__))
    refine CT (by simp [F4] <;> omega) ?_
    refine SQ [] [none] fun _ _ g r => ?_
    try simp [F4]
    and_intros <;> first | exact g _ (by kernel_rfl) | refine r _ _ _ ?_ | omega | (simp [maxLen, F4] <;> omega)
    refine WK [(4, AV.bool false)] [] 0 (by simp [F4]) (by simp [F4]) ?_
    simp only [Option.some.injEq] at hF
    subst hF
    refine AW.ret (hQ _ _ _ ?_ (matchO_0 ?_)).1
    ·simp [Try.f46, F4]
    ·simp [F4]
   ·replace hF := ite_f h9 hF
    have h9q : v4 = v5 := Classical.not_not.1 h9
    have h9_ := eqb_t h9q
    have h9__ := neb_f h9q
    have F5 := And.intro F3 (And.intro h9_ h9__)
    refine CF (by simp [F5] <;> omega) ?_
    refine AW.skip ?_
    refine hK164 _ _ _ ?_
    refine RG [] [none, none, none] fun _ _ g r => ?_
    try simp [F5]
    and_intros <;> first | exact g _ (by kernel_rfl) | refine r _ _ _ ?_ | omega | (simp [maxLen, F5] <;> omega)
    refine hK158 _ _ _ ?_
    exact NX (k' := n1) (IntKind.wrap .i64 (v3 + 1)) hF (by simp [F5]) (by simp [F5])
  ·replace hF := ite_f h2 hF
   have h2_ := h2
   try simp at h2_
   have F6 := And.intro h1_ (And.intro h1__ (And.intro h2 h2_))
   refine CF (by simp [F6] <;> omega) ?_
   refine AW.exit ?_
   try simp
   refine hK129 _ _ _ ?_
   refine SQ [] [none] fun _ _ g r => ?_
   try simp [F6]
   and_intros <;> first | exact g _ (by kernel_rfl) | refine r _ _ _ ?_ | omega | (simp [maxLen, F6] <;> omega)
   refine WK [(4, AV.bool true)] [] 0 (by simp [F6]) (by simp [F6]) ?_
   simp only [Option.some.injEq] at hF
   subst hF
   refine AW.ret (hQ _ _ _ ?_ (matchO_0 ?_)).1
   ·simp [Try.f46, F6]
   ·simp [F6]
theorem w_ref16_Proves (k : Nat) (v0 : Int) (v1 : (List api_Arc)) (v2 : (List Int)) (v3 : Int) (v4 : Bool) (hF : ref16_Proves k v0 v1 v2 v3 = some v4) :
  FCall Try.prog 47 [AV.agg [AV.int .i64 v0, AV.lst false false (List.map api_Arc.av v1)], AV.lst false false (List.map (AV.int .i64) v2), AV.int .i64 v3] [] (AV.bool v4) [] := by
 unfold ref16_Proves at hF
 refine EN Try.func47 ?_
 intro c0 w0 Q h0 hQ
 refine WK [(0, AV.agg [Iz v0, AV.lst false false (List.map api_Arc.av v1)]), (1, Lz v2), (2, Iz v3)] [] 0 (by simp) (by simp) ?_
 refine SQ [] [none, none] fun _ _ g r => ?_
 try simp
 and_intros <;> first | exact g _ (by kernel_rfl) | refine r _ _ _ ?_ | omega | (simp [maxLen] <;> omega)
 refine WK [(1, Lz v2), (2, Iz v3), (3, AV.ptr 0 0)] [(0, .cells [Iz v0, AV.lst false false (List.map api_Arc.av v1)])] 1 (by simp) (by simp) ?_
 refine SQ [] [none, none, none, none, some (10, true), some (10, true), some (10, true), some (10, true), some (10, true), none, none] fun _ _ g r => ?_
 try simp
 and_intros
 try any_goals first | omega | (simp [maxLen] <;> omega)
 obtain ⟨v5, h1, hF⟩ := bnd1_elim hF
 refine AC (w_ref16_Valid k _ _ _ _ h1) (.cons (.same (by simp)) (.cons (.same (by simp)) .nil)) ?_
 by_cases h2 : v5 = true
 ·replace hF := ite_t h2 hF
  have h2_ := h2
  try simp at h2_
  try simp [h2, h2_]
  and_intros
  try any_goals first | omega | (simp [h2, h2_, maxLen] <;> omega)
  obtain ⟨v6, h3, hF⟩ := bnd1_elim hF
  refine AC (w_ref16_Capacity k _ _ _ _ h3) (.cons (.same (by simp [h2, h2_])) (.cons (.same (by simp [h2, h2_])) .nil)) ?_
  try simp [h2, h2_]
  and_intros <;> first | exact g _ (by kernel_rfl) | refine r _ _ _ ?_ | omega | (simp [h2, h2_, maxLen] <;> omega)
  refine WK [(6, AV.bool (decide (v6 ≤ v3)))] [] 1 (by simp [h2, h2_]) (by simp [h2, h2_]) ?_
  simp only [Option.some.injEq] at hF
  subst hF
  refine AW.ret (hQ _ _ _ ?_ (matchO_0 ?_)).1
  ·simp [Try.f47, h2, h2_]
  ·simp [h2, h2_]
 ·replace hF := ite_f h2 hF
  have h2_ := h2
  try simp at h2_
  try simp [h2, h2_]
  and_intros <;> first | exact g _ (by kernel_rfl) | refine r _ _ _ ?_ | omega | (simp [h2, h2_, maxLen] <;> omega)
  refine WK [(6, AV.bool false)] [] 1 (by simp [h2, h2_]) (by simp [h2, h2_]) ?_
  simp only [Option.some.injEq] at hF
  subst hF
  refine AW.ret (hQ _ _ _ ?_ (matchO_0 ?_)).1
  ·simp [Try.f47, h2, h2_]
  ·simp [h2, h2_]
theorem w_law16_agree (k : Nat) (v0 : Int) (v1 : (List api_Arc)) (v2 : (List Int)) (v3 : Int) (v4 : Bool) (hF : law16_agree k v0 v1 v2 v3 = some v4) :
  FCall Try.prog 28 [AV.agg [AV.int .i64 v0, AV.lst false false (List.map api_Arc.av v1)], AV.lst false false (List.map (AV.int .i64) v2), AV.int .i64 v3] [] (AV.bool v4) [] := by
 unfold law16_agree at hF
 refine EN Try.func28 ?_
 intro c0 w0 Q h0 hQ
 refine WK [(0, AV.agg [Iz v0, AV.lst false false (List.map api_Arc.av v1)]), (1, Lz v2), (2, Iz v3)] [] 0 (by simp) (by simp) ?_
 refine SQ [] [none, none] fun _ _ g r => ?_
 try simp
 and_intros <;> first | exact g _ (by kernel_rfl) | refine r _ _ _ ?_ | omega | (simp [maxLen] <;> omega)
 refine WK [(1, Lz v2), (2, Iz v3), (3, AV.ptr 0 0)] [(0, .cells [Iz v0, AV.lst false false (List.map api_Arc.av v1)])] 1 (by simp) (by simp) ?_
 refine SQ [] [none, none, none, none, none, none, none] fun _ _ g r => ?_
 try simp
 and_intros
 try any_goals first | omega | (simp [maxLen] <;> omega)
 obtain ⟨v5, v6, h1, hF⟩ := bnd2_elim hF
 refine AC (w_cut_Nearest k _ _ _ _ h1) (.cons (.same (by simp)) .nil) ?_
 try simp
 and_intros <;> first | exact g _ (by kernel_rfl) | refine r _ _ _ ?_ | omega | (simp [maxLen] <;> omega)
 refine WK [(1, Lz v2), (2, Iz v3), (3, AV.ptr 0 0), (7, AV.slc 1 0 1 v5.length false), (8, Iz v6)] [(0, .cells [Iz v0, AV.lst false false (List.map api_Arc.av v1)]), (1, .grow (List.map (AV.int .i64) v5))] 2 (by simp) (by simp) ?_
 refine AW.frz 1 (o := .grow (List.map (AV.int .i64) v5)) (by simp) rfl [(7, Lz v5)] [] ⟨(.l (by simp) (by simp) (by simp) (by simp)), trivial⟩ trivial ?_
 refine WK [(1, Lz v2), (2, Iz v3), (3, AV.ptr 0 0), (7, Lz v5), (8, Iz v6)] [(0, .cells [Iz v0, AV.lst false false (List.map api_Arc.av v1)])] 2 (by simp) (by simp) ?_
 refine SQ [] [none, none, none, none, none, none, none] fun _ _ g r => ?_
 try simp
 and_intros
 try any_goals first | omega | (simp [maxLen] <;> omega)
 obtain ⟨v7, v8, h2, hF⟩ := bnd2_elim hF
 refine AC (w_ref16_Nearest k _ _ _ _ h2) (.cons (.same (by simp)) .nil) ?_
 try simp
 and_intros <;> first | exact g _ (by kernel_rfl) | refine r _ _ _ ?_ | omega | (simp [maxLen] <;> omega)
 refine WK [(1, Lz v2), (2, Iz v3), (3, AV.ptr 0 0), (7, Lz v5), (8, Iz v6), (9, Lz v7), (10, Iz v8)] [(0, .cells [Iz v0, AV.lst false false (List.map api_Arc.av v1)])] 2 (by simp) (by simp) ?_
 refine SQ [] [none, none, none, none, some (24, true), some (24, true), some (24, true), none, none, some (29, true), some (29, true), some (29, true), some (29, true), some (29, true), some (29, true), some (29, true), none, none, some (38, true), some (38, true), some (38, true), some (38, true), some (38, true), some (38, true), some (38, true), none, none, some (47, true), some (47, true), some (47, true), some (47, true), some (47, true), some (47, true), some (47, true), some (47, true), some (47, true), none, none] fun _ _ g r => ?_
 by_cases h3 : v6 = v8
 ·replace hF := ite_t h3 hF
  have h3q : v6 = v8 := h3
  have h3_ := eqb_t h3q
  have h3__ := neb_f h3q
  try simp [h3_, h3__]
  and_intros
  try any_goals first | omega | (simp [h3_, h3__, maxLen] <;> omega)
  obtain ⟨v9, h4, hF⟩ := bnd1_elim hF
  refine AC (w_ref03_SameInts k _ _ _ h4) (.cons (.same (by simp [h3_, h3__])) (.cons (.same (by simp [h3_, h3__])) .nil)) ?_
  by_cases h5 : v9 = true
  ·replace hF := ite_t h5 hF
   have h5_ := h5
   try simp at h5_
   have F1 := And.intro h3_ (And.intro h3__ (And.intro h5 h5_))
   try simp [F1]
   and_intros
   try any_goals first | omega | (simp [maxLen, F1] <;> omega)
   obtain ⟨v10, h6, hF⟩ := bnd1_elim hF
   refine AC (w_cut_Valid k _ _ _ _ h6) (.cons (.same (by simp [F1])) (.cons (.same (by simp [F1])) .nil)) ?_
   try simp [F1]
   and_intros
   try any_goals first | omega | (simp [maxLen, F1] <;> omega)
   obtain ⟨v11, h7, hF⟩ := bnd1_elim hF
   refine AC (w_ref16_Valid k _ _ _ _ h7) (.cons (.same (by simp [F1])) (.cons (.same (by simp [F1])) .nil)) ?_
   by_cases h8 : (v10 == v11) = true
   ·replace hF := ite_t h8 hF
    have h8_ := h8
    try simp at h8_
    have F2 := And.intro F1 (And.intro h8 h8_)
    try simp [F2]
    and_intros
    try any_goals first | omega | (simp [maxLen, F2] <;> omega)
    obtain ⟨v12, h9, hF⟩ := bnd1_elim hF
    refine AC (w_cut_Capacity k _ _ _ _ h9) (.cons (.same (by simp [F2])) (.cons (.same (by simp [F2])) .nil)) ?_
    try simp [F2]
    and_intros
    try any_goals first | omega | (simp [maxLen, F2] <;> omega)
    obtain ⟨v13, h10, hF⟩ := bnd1_elim hF
    refine AC (w_ref16_Capacity k _ _ _ _ h10) (.cons (.same (by simp [F2])) (.cons (.same (by simp [F2])) .nil)) ?_
    by_cases h11 : v12 = v13
    ·replace hF := ite_t h11 hF
     have h11q : v12 = v13 := h11
     have h11_ := eqb_t h11q
     have h11__ := neb_f h11q
     have F3 := And.intro F2 (And.intro h11_ h11__)
     try simp [F3]
     and_intros
     try any_goals first | omega | (simp [maxLen, F3] <;> omega)
     obtain ⟨v14, h12, hF⟩ := bnd1_elim hF
     refine AC (w_cut_Proves k _ _ _ _ _ h12) (.cons (.same (by simp [F3])) (.cons (.same (by simp [F3])) (.cons (.same (by simp [F3])) .nil))) ?_
     try simp [F3]
     and_intros
     try any_goals first | omega | (simp [maxLen, F3] <;> omega)
     obtain ⟨v15, h13, hF⟩ := bnd1_elim hF
     refine AC (w_ref16_Proves k _ _ _ _ _ h13) (.cons (.same (by simp [F3])) (.cons (.same (by simp [F3])) (.cons (.same (by simp [F3])) .nil))) ?_
     try simp [F3]
     and_intros <;> first | exact g _ (by kernel_rfl) | refine r _ _ _ ?_ | omega | (simp [maxLen, F3] <;> omega)
     refine WK [(6, AV.bool (v14 == v15))] [] 2 (by simp [F3]) (by simp [F3]) ?_
     simp only [Option.some.injEq] at hF
     subst hF
     refine AW.ret (hQ _ _ _ ?_ (matchO_0 ?_)).1
     ·simp [Try.f28, F3]
     ·simp [F3]
    ·replace hF := ite_f h11 hF
     have h11_ := eqb_f h11
     have h11__ := neb_t h11
     have F4 := And.intro F2 (And.intro h11 (And.intro h11_ h11__))
     try simp [F4]
     and_intros <;> first | exact g _ (by kernel_rfl) | refine r _ _ _ ?_ | omega | (simp [maxLen, F4] <;> omega)
     refine WK [(6, AV.bool false)] [] 2 (by simp [F4]) (by simp [F4]) ?_
     simp only [Option.some.injEq] at hF
     subst hF
     refine AW.ret (hQ _ _ _ ?_ (matchO_0 ?_)).1
     ·simp [Try.f28, F4]
     ·simp [F4]
   ·replace hF := ite_f h8 hF
    have h8_ := h8
    try simp at h8_
    have F5 := And.intro F1 (And.intro h8 h8_)
    try simp [F5]
    and_intros <;> first | exact g _ (by kernel_rfl) | refine r _ _ _ ?_ | omega | (simp [maxLen, F5] <;> omega)
    refine WK [(6, AV.bool false)] [] 2 (by simp [F5]) (by simp [F5]) ?_
    simp only [Option.some.injEq] at hF
    subst hF
    refine AW.ret (hQ _ _ _ ?_ (matchO_0 ?_)).1
    ·simp [Try.f28, F5]
    ·simp [F5]
  ·replace hF := ite_f h5 hF
   have h5_ := h5
   try simp at h5_
   have F6 := And.intro h3_ (And.intro h3__ (And.intro h5 h5_))
   try simp [F6]
   and_intros <;> first | exact g _ (by kernel_rfl) | refine r _ _ _ ?_ | omega | (simp [maxLen, F6] <;> omega)
   refine WK [(6, AV.bool false)] [] 2 (by simp [F6]) (by simp [F6]) ?_
   simp only [Option.some.injEq] at hF
   subst hF
   refine AW.ret (hQ _ _ _ ?_ (matchO_0 ?_)).1
   ·simp [Try.f28, F6]
   ·simp [F6]
 ·replace hF := ite_f h3 hF
  have h3_ := eqb_f h3
  have h3__ := neb_t h3
  have F7 := And.intro h3 (And.intro h3_ h3__)
  try simp [F7]
  and_intros <;> first | exact g _ (by kernel_rfl) | refine r _ _ _ ?_ | omega | (simp [maxLen, F7] <;> omega)
  refine WK [(6, AV.bool false)] [] 2 (by simp [F7]) (by simp [F7]) ?_
  simp only [Option.some.injEq] at hF
  subst hF
  refine AW.ret (hQ _ _ _ ?_ (matchO_0 ?_)).1
  ·simp [Try.f28, F7]
  ·simp [F7]
theorem w_law16_CutMade (k : Nat) (v0 : (List Int)) (v1 : Bool) (hF : law16_CutMade k v0 = some v1) :
  FCall Try.prog 9 [AV.lst false false (List.map (AV.int .i64) v0)] [] (AV.bool v1) [] := by
 unfold law16_CutMade at hF
 refine EN Try.func9 ?_
 intro c0 w0 Q h0 hQ
 refine WK [(0, Lz v0)] [] 0 (by simp [-List.drop_one]) (by simp [-List.drop_one]) ?_
 refine SQ [] [none] fun _ _ g r => ?_
 try simp [-List.drop_one]
 and_intros <;> first | exact g _ (by kernel_rfl) | refine r _ _ _ ?_ | omega | (simp [-List.drop_one, maxLen] <;> omega)
 refine WK [(0, Lz v0)] [] 0 (by simp [-List.drop_one]) (by simp [-List.drop_one]) ?_
 refine AW.seq fun K92 hK92 => ?_
 refine SQ [] [none, none, none] fun _ _ g r => ?_
 try simp [-List.drop_one]
 and_intros
 try any_goals first | omega | (simp [-List.drop_one, maxLen] <;> omega)
 obtain ⟨v2, h1, hF⟩ := bnd1_elim hF
 refine AC (w_made_Light k _ _ h1) (.cons (.same (by simp)) .nil) ?_
 try simp [-List.drop_one]
 and_intros <;> first | exact g _ (by kernel_rfl) | refine r _ _ _ ?_ | omega | (simp [-List.drop_one, maxLen] <;> omega)
 refine WK [(0, Lz v0), (10, AV.bool (!v2))] [] 0 (by simp [-List.drop_one]) (by simp [-List.drop_one]) ?_
 by_cases h2 : (!v2) = true
 ·replace hF := ite_t h2 hF
  have h2_ := h2
  try simp at h2_
  refine CT (by simp [-List.drop_one, h2, h2_] <;> omega) ?_
  refine SQ [] [none, none] fun _ _ g r => ?_
  try simp [-List.drop_one, h2, h2_]
  and_intros
  try any_goals first | omega | (simp [-List.drop_one, h2, h2_, maxLen] <;> omega)
  obtain ⟨v3, h3, hF⟩ := bnd1_elim hF
  refine AC (w_law16_awake k _ h3) .nil ?_
  try simp [-List.drop_one, h2, h2_]
  and_intros <;> first | exact g _ (by kernel_rfl) | refine r _ _ _ ?_ | omega | (simp [-List.drop_one, h2, h2_, maxLen] <;> omega)
  refine WK [(2, AV.bool v3)] [] 0 (by simp [-List.drop_one, h2, h2_]) (by simp [-List.drop_one, h2, h2_]) ?_
  simp only [Option.some.injEq] at hF
  subst hF
  refine AW.ret (hQ _ _ _ ?_ (matchO_0 ?_)).1
  ·simp [Try.f9, h2, h2_]
  ·simp [h2, h2_]
 ·replace hF := ite_f h2 hF
  have h2_ := h2
  try simp at h2_
  refine CF (by simp [-List.drop_one, h2, h2_] <;> omega) ?_
  refine AW.skip ?_
  refine hK92 _ _ _ ?_
  refine SQ [] [none, none, none] fun _ _ g r => ?_
  try simp [-List.drop_one, h2, h2_]
  and_intros
  try any_goals first | omega | (simp [-List.drop_one, h2, h2_, maxLen] <;> omega)
  obtain ⟨v4, v5, h4, hF⟩ := bnd2_elim hF
  refine AC (w_made_Roll k _ _ _ h4) (.cons (.same (by simp [-List.drop_one, h2, h2_] <;> omega)) .nil) ?_
  try simp [-List.drop_one, h2, h2_]
  and_intros <;> first | exact g _ (by kernel_rfl) | refine r _ _ _ ?_ | omega | (simp [-List.drop_one, h2, h2_, maxLen] <;> omega)
  refine WK [(3, AV.ptr 0 0)] [(0, .cells [Lz v4, Iz v5])] 1 (by simp [-List.drop_one, h2, h2_]) (by simp [-List.drop_one, h2, h2_]) ?_
  refine SQ [] [none, none, none, none] fun _ _ g r => ?_
  try simp [-List.drop_one, h2, h2_]
  and_intros
  try any_goals first | omega | (simp [-List.drop_one, h2, h2_, maxLen] <;> omega)
  obtain ⟨v6, v7, v8, h5, hF⟩ := bnd3_elim hF
  refine aCall_l (w_made_Dice_Network k _ _ _ _ _ h5) (by simp) [0] [] [0] rfl (.cons (.same (by simp [-List.drop_one, h2, h2_] <;> omega)) .nil) (by simp [-List.drop_one, h2, h2_]) (by decide) (by simp) (by simp) (.inl rfl) (by simp) (by simp) ?_
  try simp [-List.drop_one, h2, h2_]
  and_intros <;> first | exact g _ (by kernel_rfl) | refine r _ _ _ ?_ | omega | (simp [-List.drop_one, h2, h2_, maxLen] <;> omega)
  refine WK [(3, AV.ptr 0 0), (4, AV.ptr 2 0)] [(0, .cells [Lz v4, Iz v8]), (1, .grow (flatA (List.map api_Arc.av v7))), (2, .cells [Iz v6, AV.slc 1 0 3 v7.length false])] 3 (by simp [-List.drop_one, h2, h2_]) (by simp [-List.drop_one, h2, h2_]) ?_
  refine AW.frz 1 (o := .grow (flatA (List.map api_Arc.av v7))) (by simp [-List.drop_one, h2, h2_]) rfl [] [(2, .cells [Iz v6, AV.lst false false (List.map api_Arc.av v7)])] trivial ⟨⟨by simp, AObj.cells [Iz v6, AV.slc 1 0 3 v7.length false], by simp [-List.drop_one, h2, h2_], (.mk (.cons (.same _) (.cons (.l (by simp) (by simp) (by simp) (by simp)) .nil)))⟩, trivial⟩ ?_
  refine WK [(3, AV.ptr 0 0), (4, AV.ptr 2 0)] [(0, .cells [Lz v4, Iz v8]), (2, .cells [Iz v6, AV.lst false false (List.map api_Arc.av v7)])] 3 (by simp [-List.drop_one, h2, h2_]) (by simp [-List.drop_one, h2, h2_]) ?_
  refine SQ [16] [none, none] fun _ _ g r => ?_
  try simp [-List.drop_one, h2, h2_]
  and_intros <;> first | exact g _ (by kernel_rfl) | refine r _ _ _ ?_ | omega | (simp [-List.drop_one, h2, h2_, maxLen] <;> omega)
  refine WK [(3, AV.ptr 0 0), (4, AV.ptr 2 0), (5, AV.slc 3 0 1 (([0] : List Int).length) true)] [(0, .cells [Lz v4, Iz v8]), (2, .cells [Iz v6, AV.lst false false (List.map api_Arc.av v7)]), (3, .cells (List.map (AV.int .i64) ([0] : List Int)))] 4 (by simp [-List.drop_one, h2, h2_]) (by simp [-List.drop_one, h2, h2_]) ?_
  refine AW.seq fun K136 hK136 => ?_
  refine SQ [] [none] fun _ _ g r => ?_
  try simp [-List.drop_one, h2, h2_]
  and_intros <;> first | exact g _ (by kernel_rfl) | refine r _ _ _ ?_ | omega | (simp [-List.drop_one, h2, h2_, maxLen] <;> omega)
  refine WK [(3, AV.ptr 0 0), (4, AV.ptr 2 0), (5, AV.slc 3 0 1 (([0] : List Int).length) true), (6, Iz 2)] [(0, .cells [Lz v4, Iz v8]), (2, .cells [Iz v6, AV.lst false false (List.map api_Arc.av v7)]), (3, .cells (List.map (AV.int .i64) ([0] : List Int)))] 4 (by simp [-List.drop_one, h2, h2_]) (by simp [-List.drop_one, h2, h2_]) ?_
  refine AW.block ?_
  refine RM h0 [(0, 0), (1, 2), (2, 3)] [(3, AV.ptr 0 0), (4, AV.ptr 1 0), (5, AV.slc 2 0 1 (([0] : List Int).length) true), (6, Iz 2)] [(0, .cells [Lz v4, Iz v8]), (1, .cells [Iz v6, AV.lst false false (List.map api_Arc.av v7)]), (2, .cells (List.map (AV.int .i64) ([0] : List Int)))] 3 (by simp [-List.drop_one, h2, h2_]) (by simp [-List.drop_one, h2, h2_]) ?_
  refine AW.flg [(5, AV.slc 2 0 1 (([0] : List Int).length) false)] [] ⟨.slc, trivial⟩ trivial (by simp) ?_
  refine AW.loopF (α := (Int × Int × (List Int))) (fun n (v9, v10, v11) => law16_CutMade.L1 k v4 v6 v7 n v9 v10 v11 = some v1) (fun (v9, v10, v11) => [(3, AV.ptr 0 0), (4, AV.ptr 1 0), (5, AV.slc 2 0 1 v11.length false), (6, Iz v9)]) (fun (v9, v10, v11) => [(0, .cells [Lz v4, Iz v10]), (1, .cells [Iz v6, AV.lst false false (List.map api_Arc.av v7)]), (2, .cells (List.map (AV.int .i64) v11))]) 3 k ((2, v8, ([0] : List Int))) hF (by simp [-List.drop_one, h2, h2_]) (by simp [-List.drop_one, h2, h2_]) (by simp) ?_
  rintro (_|n1) ⟨v9, v10, v11⟩ hF K165 hK165
  ·try dsimp only at hF
   rw [law16_CutMade.L1] at hF; cases hF
  try dsimp only at hF
  rw [law16_CutMade.L1] at hF
  refine AW.seq fun K167 hK167 => ?_
  refine SQ [] [none, none, none, none] fun _ _ g r => ?_
  try simp [-List.drop_one, h2, h2_]
  and_intros <;> first | exact g _ (by kernel_rfl) | refine r _ _ _ ?_ | omega | (simp [-List.drop_one, h2, h2_, maxLen] <;> omega)
  refine WK [(3, AV.ptr 0 0), (4, AV.ptr 1 0), (5, AV.slc 2 0 1 v11.length false), (6, Iz v9), (20, AV.bool (decide (v9 < v6)))] [(0, .cells [Lz v4, Iz v10]), (1, .cells [Iz v6, AV.lst false false (List.map api_Arc.av v7)]), (2, .cells (List.map (AV.int .i64) v11))] 3 (by simp [-List.drop_one, h2, h2_]) (by simp [-List.drop_one, h2, h2_]) ?_
  by_cases h6 : v9 < v6
  ·replace hF := ite_t h6 hF
   have h6_ := h6
   try simp at h6_
   have F1 := And.intro h2 (And.intro h2_ (And.intro h6 h6_))
   refine CT (by simp [-List.drop_one, F1] <;> omega) ?_
   refine AW.skip ?_
   refine hK167 _ _ _ ?_
   refine AW.midF (α := (Int × (List Int))) (fun (v12, v13) => law16_CutMade.J2 k v9 (fun v9_ v10_ v11_ => law16_CutMade.L1 k v4 v6 v7 n1 v9_ v10_ v11_) v12 v13 = some v1) (fun (v12, v13) => [(3, AV.ptr 0 0), (4, AV.ptr 1 0), (5, AV.slc 2 0 1 v13.length false), (6, Iz v9)]) (fun (v12, v13) => [(0, .cells [Lz v4, Iz v12]), (1, .cells [Iz v6, AV.lst false false (List.map api_Arc.av v7)]), (2, .cells (List.map (AV.int .i64) v13))]) 3 (fun K172 hK172 => ?_) ?_
   ·refine AW.block ?_
    refine SQ [] [none, none] fun _ _ g r => ?_
    try simp [-List.drop_one, F1]
    and_intros
    try any_goals first | omega | (simp [-List.drop_one, maxLen, F1] <;> omega)
    obtain ⟨v14, v15, h7, hF⟩ := bnd2_elim hF
    refine aCall_l (w_made_Dice_One k _ _ _ _ _ h7) (by simp) [0] [] [0] rfl (.cons (.same (by simp [-List.drop_one, F1] <;> omega)) (.cons (.same (by simp [-List.drop_one, F1] <;> omega)) .nil)) (by simp [-List.drop_one, F1]) (by decide) (by simp) (by simp) (.inl rfl) (by simp) (by simp) ?_
    try simp [-List.drop_one, F1]
    and_intros <;> first | exact g _ (by kernel_rfl) | refine r _ _ _ ?_ | omega | (simp [-List.drop_one, maxLen, F1] <;> omega)
    refine WK [(3, AV.ptr 0 0), (4, AV.ptr 1 0), (5, AV.slc 2 0 1 v11.length false), (6, Iz v9), (24, AV.bool v14)] [(0, .cells [Lz v4, Iz v15]), (1, .cells [Iz v6, AV.lst false false (List.map api_Arc.av v7)]), (2, .cells (List.map (AV.int .i64) v11))] 3 (by simp [-List.drop_one, F1]) (by simp [-List.drop_one, F1]) ?_
    by_cases h8 : v14 = true
    ·replace hF := ite_t h8 hF
     have h8_ := h8
     try simp at h8_
     have F2 := And.intro F1 (And.intro h8 h8_)
     refine CT (by simp [-List.drop_one, F2] <;> omega) ?_
     refine RG [] [none, none, none, none, none] fun _ _ g r => ?_
     obtain ⟨h9, hF⟩ := chk_elim hF
     have h9_ := h9
     try simp at h9_
     have F3 := And.intro F2 h9
     try simp [-List.drop_one, F3]
     and_intros <;> first | exact g _ (by kernel_rfl) | refine r _ _ _ ?_ | omega | (simp [-List.drop_one, maxLen, F3] <;> omega)
     refine hK172 _ _ _ ?_
     refine RN h0 [(0, 0), (1, 1), (2, 3)] [(3, AV.ptr 0 0), (4, AV.ptr 1 0), (5, AV.slc 2 0 1 ((v11 ++ ([v9] : List Int)).length) false), (6, Iz v9)] [(0, .cells [Lz v4, Iz v15]), (1, .cells [Iz v6, AV.lst false false (List.map api_Arc.av v7)]), (2, .cells (List.map (AV.int .i64) (v11 ++ ([v9] : List Int))))] 3 (by simp [-List.drop_one, F3] <;> omega) (by simp [-List.drop_one, F3]) ?_
     exact JN ((v15, v11 ++ ([v9] : List Int))) hF (by simp [-List.drop_one, F3]) (by simp [-List.drop_one, F3])
    ·replace hF := ite_f h8 hF
     have h8_ := h8
     try simp at h8_
     have F4 := And.intro F1 (And.intro h8 h8_)
     refine CF (by simp [-List.drop_one, F4] <;> omega) ?_
     refine AW.skip ?_
     refine hK172 _ _ _ ?_
     exact JN ((v15, v11)) hF (by simp [-List.drop_one, F4]) (by simp [-List.drop_one, F4])
   ·rintro ⟨v12, v13⟩ hF
    try dsimp only at hF
    unfold law16_CutMade.J2 at hF
    refine RG [] [none, none, none] fun _ _ g r => ?_
    try simp [-List.drop_one, F1]
    and_intros <;> first | exact g _ (by kernel_rfl) | refine r _ _ _ ?_ | omega | (simp [-List.drop_one, maxLen, F1] <;> omega)
    refine hK165 _ _ _ ?_
    exact NX (k' := n1) ((IntKind.wrap .i64 (v9 + 1), v12, v13)) hF (by simp [-List.drop_one, F1]) (by simp [-List.drop_one, F1])
  ·replace hF := ite_f h6 hF
   have h6_ := h6
   try simp at h6_
   have F5 := And.intro h2 (And.intro h2_ (And.intro h6 h6_))
   refine CF (by simp [-List.drop_one, F5] <;> omega) ?_
   refine AW.exit ?_
   try simp
   refine hK136 _ _ _ ?_
   refine SQ [] [none, none, none, none] fun _ _ g r => ?_
   try simp [-List.drop_one, F5]
   and_intros
   try any_goals first | omega | (simp [-List.drop_one, maxLen, F5] <;> omega)
   obtain ⟨v16, h10, hF⟩ := bnd1_elim hF
   refine aCall_l (w_ref16_Capacity k _ _ _ _ h10) (by simp) [] [2] [] rfl (.cons (.same (by simp [-List.drop_one, F5] <;> omega)) (.cons (Coe.l (o := .cells (List.map (AV.int .i64) v11)) (by simp [-List.drop_one, F5] <;> omega) rfl (by simp [-List.drop_one, F5] <;> omega) (by simp [-List.drop_one, noIdsL]) (by simp [-List.drop_one, F5] <;> omega) (by simp [-List.drop_one, F5] <;> omega)) .nil)) (by simp [-List.drop_one, F5]) (by decide) (by simp) (by simp) (.inr ⟨by simp, by simp⟩) (by simp) (by simp) ?_
   try simp [-List.drop_one, F5]
   and_intros <;> first | exact g _ (by kernel_rfl) | refine r _ _ _ ?_ | omega | (simp [-List.drop_one, maxLen, F5] <;> omega)
   refine WK [(4, AV.ptr 1 0), (5, AV.slc 2 0 1 v11.length false), (7, Iz v16)] [(1, .cells [Iz v6, AV.lst false false (List.map api_Arc.av v7)]), (2, .cells (List.map (AV.int .i64) v11))] 3 (by simp [-List.drop_one, F5]) (by simp [-List.drop_one, F5]) ?_
   refine SQ [48] [none, none, some (33, true), some (33, true), some (33, true), some (33, true), none, none, some (39, true), some (39, true), some (39, true), some (39, true), some (39, true), none, none, some (46, true), some (46, true), some (46, true), some (46, true), some (46, true), some (46, true), some (46, true), none, none, some (55, true), some (55, true), some (55, true), some (55, true), some (55, true), none, none, some (62, true), some (62, true), some (62, true), some (62, true), some (62, true), some (62, true), some (62, true), some (62, true), none, none] fun _ _ g r => ?_
   try simp [-List.drop_one, F5]
   and_intros
   try any_goals first | omega | (simp [-List.drop_one, maxLen, F5] <;> omega)
   obtain ⟨v17, h11, hF⟩ := bnd1_elim hF
   refine AC (w_law16_awake k _ h11) .nil ?_
   by_cases h12 : v17 = true
   ·replace hF := ite_t h12 hF
    have h12_ := h12
    try simp at h12_
    have F6 := And.intro F5 (And.intro h12 h12_)
    try simp [-List.drop_one, F6]
    and_intros
    try any_goals first | omega | (simp [-List.drop_one, maxLen, F6] <;> omega)
    obtain ⟨v18, h13, hF⟩ := bnd1_elim hF
    refine aCall_l (w_law16_agree k _ _ _ _ _ h13) (by simp) [] [2] [] rfl (.cons (.same (by simp [-List.drop_one, F6] <;> omega)) (.cons (Coe.l (o := .cells (List.map (AV.int .i64) v11)) (by simp [-List.drop_one, F6] <;> omega) rfl (by simp [-List.drop_one, F6] <;> omega) (by simp [-List.drop_one, noIdsL]) (by simp [-List.drop_one, F6] <;> omega) (by simp [-List.drop_one, F6] <;> omega)) (.cons (.same (by simp [-List.drop_one, F6] <;> omega)) .nil))) (by simp [-List.drop_one, F6]) (by decide) (by simp) (by simp) (.inr ⟨by simp, by simp⟩) (by simp) (by simp) ?_
    by_cases h14 : v18 = true
    ·replace hF := ite_t h14 hF
     have h14_ := h14
     try simp at h14_
     have F7 := And.intro F6 (And.intro h14 h14_)
     try simp [-List.drop_one, F7]
     and_intros
     try any_goals first | omega | (simp [-List.drop_one, maxLen, F7] <;> omega)
     obtain ⟨v19, h15, hF⟩ := bnd1_elim hF
     refine aCall_l (w_law16_agree k _ _ _ _ _ h15) (by simp) [] [2] [] rfl (.cons (.same (by simp [-List.drop_one, F7] <;> omega)) (.cons (Coe.l (o := .cells (List.map (AV.int .i64) v11)) (by simp [-List.drop_one, F7] <;> omega) rfl (by simp [-List.drop_one, F7] <;> omega) (by simp [-List.drop_one, noIdsL]) (by simp [-List.drop_one, F7] <;> omega) (by simp [-List.drop_one, F7] <;> omega)) (.cons (.same (by simp [-List.drop_one, F7] <;> omega)) .nil))) (by simp [-List.drop_one, F7]) (by decide) (by simp) (by simp) (.inr ⟨by simp, by simp⟩) (by simp) (by simp) ?_
     by_cases h16 : v19 = true
     ·replace hF := ite_t h16 hF
      have h16_ := h16
      try simp at h16_
      have h17b : v11.length - 0 - 1 = v11.length - (0 + 1) := by omega
      obtain ⟨⟨h17, h18⟩, hF⟩ := chk_elim hF
      have h17n := ne_of_pos h17
      have h17_ := h17
      try simp at h17_
      have h18_ := h18
      try simp at h18_
      obtain ⟨h19, hF⟩ := chk_elim hF
      have h19_ := h19
      try simp at h19_
      have F8 := And.intro F7 (And.intro h16 (And.intro h16_ (And.intro h17 (And.intro h18 (And.intro h17_ (And.intro h18_ (And.intro h17n (And.intro h17b h19))))))))
      try simp [-List.drop_one, F8]
      and_intros
      try any_goals first | omega | (simp [-List.drop_one, maxLen, F8] <;> omega)
      obtain ⟨v20, h20, hF⟩ := bnd1_elim hF
      refine aCall_l (w_law16_agree k _ _ _ _ _ h20) (by simp) [] [4] [] rfl (.cons (.same (by simp [-List.drop_one, F8] <;> omega)) (.cons (Coe.l (o := .cells (List.map (AV.int .i64) (([0, 1] : List Int) ++ (v11.drop ((1 : Int).toNat))))) (by simp [-List.drop_one, F8] <;> omega) rfl (by simp [-List.drop_one, F8] <;> omega) (by simp [-List.drop_one, noIdsL]) (by simp [-List.drop_one, F8] <;> omega) (by simp [-List.drop_one, F8] <;> omega)) (.cons (.same (by simp [-List.drop_one, F8] <;> omega)) .nil))) (by simp [-List.drop_one, F8]) (by decide) (by simp) (by simp) (.inr ⟨by simp, by simp⟩) (by simp) (by simp) ?_
      by_cases h21 : v20 = true
      ·replace hF := ite_t h21 hF
       have h21_ := h21
       try simp at h21_
       have h22b : v11.length - 0 - 1 = v11.length - (0 + 1) := by omega
       obtain ⟨⟨h22, h23⟩, hF⟩ := chk_elim hF
       have h22n := ne_of_pos h22
       have h22_ := h22
       try simp at h22_
       have h23_ := h23
       try simp at h23_
       have F9 := And.intro F8 (And.intro h21 (And.intro h21_ (And.intro h22 (And.intro h23 (And.intro h22_ (And.intro h23_ (And.intro h22n h22b)))))))
       try simp [-List.drop_one, F9]
       and_intros
       try any_goals first | omega | (simp [-List.drop_one, maxLen, F9] <;> omega)
       obtain ⟨v21, h24, hF⟩ := bnd1_elim hF
       refine aCall_l (w_law16_agree k _ _ _ _ _ h24) (by simp) [] [2] [] rfl (.cons (.same (by simp [-List.drop_one, F9] <;> omega)) (.cons (Coe.lst (o := .cells (List.map (AV.int .i64) v11)) (by simp [-List.drop_one, F9] <;> omega) rfl (by simp [-List.drop_one, F9] <;> omega) (by simp [-List.drop_one, noIdsL]) (by simp [-List.drop_one, flatA_sub, F9] <;> omega) (by first | (simp; done) | simpa using flat_part1 (off := (1 : Int).toNat) (F := (AV.int .i64)) (es := 1) (fun _ => rfl) v11 (by omega))) (.cons (.same (by simp [-List.drop_one, F9] <;> omega)) .nil))) (by simp [-List.drop_one, F9]) (by decide) (by simp) (by simp) (.inr ⟨by simp, by simp⟩) (by simp) (by simp) ?_
       by_cases h25 : v21 = true
       ·replace hF := ite_t h25 hF
        have h25_ := h25
        try simp at h25_
        obtain ⟨h26, hF⟩ := chk_elim hF
        have h26_ := h26
        try simp at h26_
        have F10 := And.intro F9 (And.intro h25 (And.intro h25_ h26))
        try simp [-List.drop_one, F10]
        and_intros
        try any_goals first | omega | (simp [-List.drop_one, maxLen, F10] <;> omega)
        obtain ⟨v22, h27, hF⟩ := bnd1_elim hF
        refine aCall_l (w_law16_agree k _ _ _ _ _ h27) (by simp) [] [5] [] rfl (.cons (.same (by simp [-List.drop_one, F10] <;> omega)) (.cons (Coe.l (o := .cells (List.map (AV.int .i64) (v11 ++ ([v6] : List Int)))) (by simp [-List.drop_one, F10] <;> omega) rfl (by simp [-List.drop_one, F10] <;> omega) (by simp [-List.drop_one, noIdsL]) (by simp [-List.drop_one, F10] <;> omega) (by simp [-List.drop_one, F10] <;> omega)) (.cons (.same (by simp [-List.drop_one, F10] <;> omega)) .nil))) (by simp [-List.drop_one, F10]) (by decide) (by simp) (by simp) (.inr ⟨by simp, by simp⟩) (by simp) (by simp) ?_
        try simp [-List.drop_one, F10]
        and_intros <;> first | exact g _ (by kernel_rfl) | refine r _ _ _ ?_ | omega | (simp [-List.drop_one, maxLen, F10] <;> omega)
        refine WK [(2, AV.bool v22)] [] 6 (by simp [-List.drop_one, F10]) (by simp [-List.drop_one, F10]) ?_
        simp only [Option.some.injEq] at hF
        subst hF
        refine AW.ret (hQ _ _ _ ?_ (matchO_0 ?_)).1
        ·simp [Try.f9, F10]
        ·simp [F10]
       ·replace hF := ite_f h25 hF
        have h25_ := h25
        try simp at h25_
        have F11 := And.intro F9 (And.intro h25 h25_)
        try simp [-List.drop_one, F11]
        and_intros <;> first | exact g _ (by kernel_rfl) | refine r _ _ _ ?_ | omega | (simp [-List.drop_one, maxLen, F11] <;> omega)
        refine WK [(2, AV.bool false)] [] 5 (by simp [-List.drop_one, F11]) (by simp [-List.drop_one, F11]) ?_
        simp only [Option.some.injEq] at hF
        subst hF
        refine AW.ret (hQ _ _ _ ?_ (matchO_0 ?_)).1
        ·simp [Try.f9, F11]
        ·simp [F11]
      ·replace hF := ite_f h21 hF
       have h21_ := h21
       try simp at h21_
       have F12 := And.intro F8 (And.intro h21 h21_)
       try simp [-List.drop_one, F12]
       and_intros <;> first | exact g _ (by kernel_rfl) | refine r _ _ _ ?_ | omega | (simp [-List.drop_one, maxLen, F12] <;> omega)
       refine WK [(2, AV.bool false)] [] 5 (by simp [-List.drop_one, F12]) (by simp [-List.drop_one, F12]) ?_
       simp only [Option.some.injEq] at hF
       subst hF
       refine AW.ret (hQ _ _ _ ?_ (matchO_0 ?_)).1
       ·simp [Try.f9, F12]
       ·simp [F12]
     ·replace hF := ite_f h16 hF
      have h16_ := h16
      try simp at h16_
      have F13 := And.intro F7 (And.intro h16 h16_)
      try simp [-List.drop_one, F13]
      and_intros <;> first | exact g _ (by kernel_rfl) | refine r _ _ _ ?_ | omega | (simp [-List.drop_one, maxLen, F13] <;> omega)
      refine WK [(2, AV.bool false)] [] 3 (by simp [-List.drop_one, F13]) (by simp [-List.drop_one, F13]) ?_
      simp only [Option.some.injEq] at hF
      subst hF
      refine AW.ret (hQ _ _ _ ?_ (matchO_0 ?_)).1
      ·simp [Try.f9, F13]
      ·simp [F13]
    ·replace hF := ite_f h14 hF
     have h14_ := h14
     try simp at h14_
     have F14 := And.intro F6 (And.intro h14 h14_)
     try simp [-List.drop_one, F14]
     and_intros <;> first | exact g _ (by kernel_rfl) | refine r _ _ _ ?_ | omega | (simp [-List.drop_one, maxLen, F14] <;> omega)
     refine WK [(2, AV.bool false)] [] 3 (by simp [-List.drop_one, F14]) (by simp [-List.drop_one, F14]) ?_
     simp only [Option.some.injEq] at hF
     subst hF
     refine AW.ret (hQ _ _ _ ?_ (matchO_0 ?_)).1
     ·simp [Try.f9, F14]
     ·simp [F14]
   ·replace hF := ite_f h12 hF
    have h12_ := h12
    try simp at h12_
    have F15 := And.intro F5 (And.intro h12 h12_)
    try simp [-List.drop_one, F15]
    and_intros <;> first | exact g _ (by kernel_rfl) | refine r _ _ _ ?_ | omega | (simp [-List.drop_one, maxLen, F15] <;> omega)
    refine WK [(2, AV.bool false)] [] 3 (by simp [-List.drop_one, F15]) (by simp [-List.drop_one, F15]) ?_
    simp only [Option.some.injEq] at hF
    subst hF
    refine AW.ret (hQ _ _ _ ?_ (matchO_0 ?_)).1
    ·simp [Try.f9, F15]
    ·simp [F15]
end Go.TF
