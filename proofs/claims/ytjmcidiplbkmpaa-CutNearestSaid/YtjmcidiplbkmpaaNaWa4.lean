/- Walks: the Go text computes the Lean functions (printed by a program of our own). -/
import Derived.Test.YtjmcidiplbkmpaaNaPu
import Derived.Test.YtjmcidiplbkmpaaNaAbsT
import Derived.Test.YtjmcidiplbkmpaaNaWa0
import Derived.Test.YtjmcidiplbkmpaaNaWa1
import Derived.Test.YtjmcidiplbkmpaaNaWa2
import Derived.Test.YtjmcidiplbkmpaaNaWa3
set_option linter.unusedVariables false
set_option linter.unusedSimpArgs false
set_option maxRecDepth 100000
set_option maxHeartbeats 4000000
namespace Go.TF
open Go Go.Abs Go.Proofs Go.Proofs.YtjmcidiplbkmpaaNaT
theorem w_ref15_Max (k : Nat) (v0 : Int) (v1 : (List api_Arc)) (v2 : (List Int)) (v3 : Int) (hF : ref15_Max k v0 v1 = some (v2, v3)) :
  FCall Try.prog 19 [AV.agg [AV.int .i64 v0, AV.lst false false (List.map api_Arc.av v1)]] [] (AV.tup [AV.lst false false (List.map (AV.int .i64) v2), AV.int .i64 v3]) [] := by
 unfold ref15_Max at hF
 refine EN Try.func19 ?_
 intro c0 w0 Q h0 hQ
 refine WK [(0, AV.agg [Iz v0, AV.lst false false (List.map api_Arc.av v1)])] [] 0 (by simp [-List.reduceReplicate, sOf_set, ofI_set, allU8_set]) (by simp [-List.reduceReplicate, sOf_set, ofI_set, allU8_set]) ?_
 refine SQ [] [none, none, none] fun _ _ g r => ?_
 try simp [-List.reduceReplicate, sOf_set, ofI_set, allU8_set]
 and_intros <;> first | exact g _ (by kernel_rfl) | refine r _ _ _ ?_ | omega | (simp [-List.reduceReplicate, sOf_set, ofI_set, allU8_set, maxLen] <;> omega)
 refine WK [(1, AV.ptr 0 0)] [(0, .cells [Iz v0, AV.lst false false (List.map api_Arc.av v1)])] 1 (by simp [-List.reduceReplicate, sOf_set, ofI_set, allU8_set]) (by simp [-List.reduceReplicate, sOf_set, ofI_set, allU8_set]) ?_
 refine AW.seq fun K436 hK436 => ?_
 refine SQ [] [none, none, none] fun _ _ g r => ?_
 try simp [-List.reduceReplicate, sOf_set, ofI_set, allU8_set]
 and_intros
 try any_goals first | omega | (simp [-List.reduceReplicate, sOf_set, ofI_set, allU8_set, maxLen] <;> omega)
 obtain ⟨v4, h1, hF⟩ := bnd1_elim hF
 refine AC (w_ref15_Check k _ _ _ h1) (.cons (.same (by simp)) .nil) ?_
 try simp [-List.reduceReplicate, sOf_set, ofI_set, allU8_set]
 and_intros <;> first | exact g _ (by kernel_rfl) | refine r _ _ _ ?_ | omega | (simp [-List.reduceReplicate, sOf_set, ofI_set, allU8_set, maxLen] <;> omega)
 refine WK [(1, AV.ptr 0 0), (13, AV.bool (v4 != 0))] [(0, .cells [Iz v0, AV.lst false false (List.map api_Arc.av v1)])] 1 (by simp [-List.reduceReplicate, sOf_set, ofI_set, allU8_set]) (by simp [-List.reduceReplicate, sOf_set, ofI_set, allU8_set]) ?_
 by_cases h2 : v4 ≠ 0
 ·replace hF := ite_t h2 hF
  have h2_ := eqb_f h2
  have h2__ := neb_t h2
  have F1 := And.intro h2 (And.intro h2_ h2__)
  refine CT (by simp [-List.reduceReplicate, sOf_set, ofI_set, allU8_set, F1] <;> omega) ?_
  refine SQ [] [none, none] fun _ _ g r => ?_
  try simp [-List.reduceReplicate, sOf_set, ofI_set, allU8_set, F1]
  and_intros <;> first | exact g _ (by kernel_rfl) | refine r _ _ _ ?_ | omega | (simp [-List.reduceReplicate, sOf_set, ofI_set, allU8_set, maxLen, F1] <;> omega)
  refine WK [(2, AV.lst true true (List.map (AV.int .i64) ([] : List Int))), (3, Iz 16)] [] 1 (by simp [-List.reduceReplicate, sOf_set, ofI_set, allU8_set, F1]) (by simp [-List.reduceReplicate, sOf_set, ofI_set, allU8_set, F1]) ?_
  refine AW.flg [(2, Lz ([] : List Int))] [] ⟨(.lst (by simp)), trivial⟩ trivial (by simp) ?_
  simp only [Option.some.injEq, Prod.mk.injEq] at hF
  obtain ⟨e0, e1⟩ := hF
  subst e0 e1
  refine AW.ret (hQ _ _ _ ?_ (matchO_0 ?_)).1
  ·simp [Try.f19, F1]
  ·simp [F1]
 ·replace hF := ite_f h2 hF
  have h2q : v4 = 0 := Classical.not_not.1 h2
  have h2_ := eqb_t h2q
  have h2__ := neb_f h2q
  refine CF (by simp [-List.reduceReplicate, sOf_set, ofI_set, allU8_set, h2_, h2__, h2q] <;> omega) ?_
  refine AW.skip ?_
  refine hK436 _ _ _ ?_
  refine SQ [17] [none, none, none, none, none] fun _ _ g r => ?_
  obtain ⟨h3, hF⟩ := chk_elim hF
  have F2 := And.intro h2_ (And.intro h2__ (And.intro h2q h3))
  try simp [-List.reduceReplicate, sOf_set, ofI_set, allU8_set, F2]
  and_intros <;> first | exact g _ (by kernel_rfl) | refine r _ _ _ ?_ | omega | (simp [-List.reduceReplicate, sOf_set, ofI_set, allU8_set, maxLen, F2] <;> omega)
  refine WK [(1, AV.ptr 0 0), (4, AV.slc 1 0 1 ((List.replicate ((v1.length : Int)).toNat (0 : Int)).length) true)] [(0, .cells [Iz v0, AV.lst false false (List.map api_Arc.av v1)]), (1, .cells (List.map (AV.int .i64) (List.replicate ((v1.length : Int)).toNat (0 : Int))))] 2 (by simp [-List.reduceReplicate, sOf_set, ofI_set, allU8_set, F2]) (by simp [-List.reduceReplicate, sOf_set, ofI_set, allU8_set, F2]) ?_
  refine AW.block ?_
  refine AW.loopF (α := (List Int)) (fun n v5 => ref15_Max.L1 k v0 v1 n v5 = some (v2, v3)) (fun v5 => [(1, AV.ptr 0 0), (4, AV.slc 1 0 1 v5.length true)]) (fun v5 => [(0, .cells [Iz v0, AV.lst false false (List.map api_Arc.av v1)]), (1, .cells (List.map (AV.int .i64) v5))]) 2 k ((List.replicate ((v1.length : Int)).toNat (0 : Int))) hF (by simp [-List.reduceReplicate, sOf_set, ofI_set, allU8_set, F2]) (by simp [-List.reduceReplicate, sOf_set, ofI_set, allU8_set, F2]) (by simp) ?_
  rintro (_|n1) v5 hF K758 hK758
  ·try dsimp only at hF
   rw [ref15_Max.L1] at hF; cases hF
  try dsimp only at hF
  rw [ref15_Max.L1] at hF
  refine AW.block ?_
  refine SQ [] [none, none, none, none] fun _ _ g r => ?_
  try simp [-List.reduceReplicate, sOf_set, ofI_set, allU8_set, F2]
  and_intros
  try any_goals first | omega | (simp [-List.reduceReplicate, sOf_set, ofI_set, allU8_set, maxLen, F2] <;> omega)
  obtain ⟨v6, h4, hF⟩ := bnd1_elim hF
  refine aCall_l (w_ref15_Residual k _ _ _ _ h4) (by simp) [] [1] [] rfl (.cons (.same (by simp [-List.reduceReplicate, sOf_set, ofI_set, allU8_set, F2])) (.cons (Coe.l (o := .cells (List.map (AV.int .i64) v5)) (by simp [-List.reduceReplicate, sOf_set, ofI_set, allU8_set, F2]) rfl (by simp [-List.reduceReplicate, sOf_set, ofI_set, allU8_set, F2]) (by simp [noIdsL]) (by simp [-List.reduceReplicate, sOf_set, ofI_set, allU8_set, F2]) (by simp [-List.reduceReplicate, sOf_set, ofI_set, allU8_set, F2])) .nil)) (by simp [-List.reduceReplicate, sOf_set, ofI_set, allU8_set, F2]) (by decide) (by simp) (by simp) (.inr ⟨by simp, by simp⟩) (by simp) (by simp) ?_
  try simp [-List.reduceReplicate, sOf_set, ofI_set, allU8_set, F2]
  and_intros <;> first | exact g _ (by kernel_rfl) | refine r _ _ _ ?_ | omega | (simp [-List.reduceReplicate, sOf_set, ofI_set, allU8_set, maxLen, F2] <;> omega)
  refine WK [(1, AV.ptr 0 0), (4, AV.slc 1 0 1 v5.length true), (5, AV.slc 2 0 1 v6.length false)] [(0, .cells [Iz v0, AV.lst false false (List.map api_Arc.av v1)]), (1, .cells (List.map (AV.int .i64) v5)), (2, .cells (List.map (AV.int .i64) v6))] 3 (by simp [-List.reduceReplicate, sOf_set, ofI_set, allU8_set, F2]) (by simp [-List.reduceReplicate, sOf_set, ofI_set, allU8_set, F2]) ?_
  refine AW.frz 2 (o := .cells (List.map (AV.int .i64) v6)) (by simp [-List.reduceReplicate, sOf_set, ofI_set, allU8_set, F2]) rfl [(5, Lz v6)] [] ⟨(.l (by simp) (by simp) (by simp) (by simp)), trivial⟩ trivial ?_
  refine WK [(1, AV.ptr 0 0), (4, AV.slc 1 0 1 v5.length true), (5, Lz v6)] [(0, .cells [Iz v0, AV.lst false false (List.map api_Arc.av v1)]), (1, .cells (List.map (AV.int .i64) v5))] 3 (by simp [-List.reduceReplicate, sOf_set, ofI_set, allU8_set, F2]) (by simp [-List.reduceReplicate, sOf_set, ofI_set, allU8_set, F2]) ?_
  refine AW.seq fun K762 hK762 => ?_
  refine SQ [] [none, none, none, none] fun _ _ g r => ?_
  obtain ⟨v7, h5, h6, h7, hF⟩ := idx_elim hF
  have h7_ := get_of h7
  try simp [-List.reduceReplicate] at h7_
  have h6_ := h6
  try simp [-List.reduceReplicate] at h6_
  have F3 := And.intro F2 (And.intro h5 (And.intro h6 (And.intro h7 (And.intro h7_ h6_))))
  try simp [-List.reduceReplicate, sOf_set, ofI_set, allU8_set, F3]
  and_intros <;> first | exact g _ (by kernel_rfl) | refine r _ _ _ ?_ | omega | (simp [-List.reduceReplicate, sOf_set, ofI_set, allU8_set, maxLen, F3] <;> omega)
  refine WK [(1, AV.ptr 0 0), (4, AV.slc 1 0 1 v5.length true), (5, Lz v6), (24, AV.bool (v7 == 0))] [(0, .cells [Iz v0, AV.lst false false (List.map api_Arc.av v1)]), (1, .cells (List.map (AV.int .i64) v5))] 3 (by simp [-List.reduceReplicate, sOf_set, ofI_set, allU8_set, F3]) (by simp [-List.reduceReplicate, sOf_set, ofI_set, allU8_set, F3]) ?_
  by_cases h8 : v7 = 0
  ·replace hF := ite_t h8 hF
   have h8q : v7 = 0 := h8
   have h8_ := eqb_t h8q
   have h8__ := neb_f h8q
   have F4 := And.intro F3 (And.intro h8_ (And.intro h8__ h8q))
   refine CT (by simp [-List.reduceReplicate, sOf_set, ofI_set, allU8_set, F4] <;> omega) ?_
   refine SQ [] [none, none, none] fun _ _ g r => ?_
   try simp [-List.reduceReplicate, sOf_set, ofI_set, allU8_set, F4]
   and_intros <;> first | exact g _ (by kernel_rfl) | refine r _ _ _ ?_ | omega | (simp [-List.reduceReplicate, sOf_set, ofI_set, allU8_set, maxLen, F4] <;> omega)
   refine WK [(2, AV.slc 1 0 1 v5.length true), (3, Iz 0)] [(1, .cells (List.map (AV.int .i64) v5))] 3 (by simp [-List.reduceReplicate, sOf_set, ofI_set, allU8_set, F4]) (by simp [-List.reduceReplicate, sOf_set, ofI_set, allU8_set, F4]) ?_
   refine WK [(2, AV.slc 1 0 1 v5.length true), (3, Iz 0)] [(1, .cells (List.map (AV.int .i64) v5))] 3 (by simp [-List.reduceReplicate, sOf_set, ofI_set, allU8_set, F4]) (by simp [-List.reduceReplicate, sOf_set, ofI_set, allU8_set, F4]) ?_
   refine AW.frz 1 (o := .cells (List.map (AV.int .i64) v5)) (by simp [-List.reduceReplicate, sOf_set, ofI_set, allU8_set, F4]) rfl [(2, AV.lst false true (List.map (AV.int .i64) v5))] [] ⟨(.l (by simp) (by simp) (by simp) (by simp)), trivial⟩ trivial ?_
   refine AW.flg [(2, Lz v5)] [] ⟨(.lst (by simp)), trivial⟩ trivial (by simp) ?_
   simp only [Option.some.injEq, Prod.mk.injEq] at hF
   obtain ⟨e0, e1⟩ := hF
   subst e0 e1
   refine AW.ret (hQ _ _ _ ?_ (matchO_0 ?_)).1
   ·simp [Try.f19, F4]
   ·simp [F4]
  ·replace hF := ite_f h8 hF
   have h8_ := eqb_f h8
   have h8__ := neb_t h8
   have F5 := And.intro F3 (And.intro h8 (And.intro h8_ h8__))
   refine CF (by simp [-List.reduceReplicate, sOf_set, ofI_set, allU8_set, F5] <;> omega) ?_
   refine AW.skip ?_
   refine hK762 _ _ _ ?_
   refine SQ [] [none] fun _ _ g r => ?_
   try simp [-List.reduceReplicate, sOf_set, ofI_set, allU8_set, F5]
   and_intros <;> first | exact g _ (by kernel_rfl) | refine r _ _ _ ?_ | omega | (simp [-List.reduceReplicate, sOf_set, ofI_set, allU8_set, maxLen, F5] <;> omega)
   refine WK [(1, AV.ptr 0 0), (4, AV.slc 1 0 1 v5.length true), (5, Lz v6), (6, Iz 1048576)] [(0, .cells [Iz v0, AV.lst false false (List.map api_Arc.av v1)]), (1, .cells (List.map (AV.int .i64) v5))] 3 (by simp [-List.reduceReplicate, sOf_set, ofI_set, allU8_set, F5]) (by simp [-List.reduceReplicate, sOf_set, ofI_set, allU8_set, F5]) ?_
   refine AW.seq fun K796 hK796 => ?_
   refine SQ [] [none] fun _ _ g r => ?_
   try simp [-List.reduceReplicate, sOf_set, ofI_set, allU8_set, F5]
   and_intros <;> first | exact g _ (by kernel_rfl) | refine r _ _ _ ?_ | omega | (simp [-List.reduceReplicate, sOf_set, ofI_set, allU8_set, maxLen, F5] <;> omega)
   refine WK [(1, AV.ptr 0 0), (4, AV.slc 1 0 1 v5.length true), (5, Lz v6), (6, Iz 1048576), (7, Iz 1)] [(0, .cells [Iz v0, AV.lst false false (List.map api_Arc.av v1)]), (1, .cells (List.map (AV.int .i64) v5))] 3 (by simp [-List.reduceReplicate, sOf_set, ofI_set, allU8_set, F5]) (by simp [-List.reduceReplicate, sOf_set, ofI_set, allU8_set, F5]) ?_
   refine AW.block ?_
   refine RM h0 [(0, 0), (1, 1)] [(1, AV.ptr 0 0), (4, AV.slc 1 0 1 v5.length true), (5, Lz v6), (6, Iz 1048576), (7, Iz 1)] [(0, .cells [Iz v0, AV.lst false false (List.map api_Arc.av v1)]), (1, .cells (List.map (AV.int .i64) v5))] 2 (by simp [-List.reduceReplicate, sOf_set, ofI_set, allU8_set, F5]) (by simp [-List.reduceReplicate, sOf_set, ofI_set, allU8_set, F5]) ?_
   refine AW.loopF (α := (Int × Int)) (fun n (v8, v9) => ref15_Max.L2 k v1 v5 v6 (fun v5_ => ref15_Max.L1 k v0 v1 n1 v5_) n v8 v9 = some (v2, v3)) (fun (v8, v9) => [(1, AV.ptr 0 0), (4, AV.slc 1 0 1 v5.length true), (5, Lz v6), (6, Iz v8), (7, Iz v9)]) (fun (v8, v9) => [(0, .cells [Iz v0, AV.lst false false (List.map api_Arc.av v1)]), (1, .cells (List.map (AV.int .i64) v5))]) 2 k ((1048576, 1)) hF (by simp [-List.reduceReplicate, sOf_set, ofI_set, allU8_set, F5]) (by simp [-List.reduceReplicate, sOf_set, ofI_set, allU8_set, F5]) (by simp) ?_
   rintro (_|n2) ⟨v8, v9⟩ hF K819 hK819
   ·try dsimp only at hF
    rw [ref15_Max.L2] at hF; cases hF
   try dsimp only at hF
   rw [ref15_Max.L2] at hF
   refine AW.seq fun K821 hK821 => ?_
   refine SQ [] [none, none] fun _ _ g r => ?_
   try simp [-List.reduceReplicate, sOf_set, ofI_set, allU8_set, F5]
   and_intros <;> first | exact g _ (by kernel_rfl) | refine r _ _ _ ?_ | omega | (simp [-List.reduceReplicate, sOf_set, ofI_set, allU8_set, maxLen, F5] <;> omega)
   refine WK [(1, AV.ptr 0 0), (4, AV.slc 1 0 1 v5.length true), (5, Lz v6), (6, Iz v8), (7, Iz v9), (27, AV.bool (v9 != 0))] [(0, .cells [Iz v0, AV.lst false false (List.map api_Arc.av v1)]), (1, .cells (List.map (AV.int .i64) v5))] 2 (by simp [-List.reduceReplicate, sOf_set, ofI_set, allU8_set, F5]) (by simp [-List.reduceReplicate, sOf_set, ofI_set, allU8_set, F5]) ?_
   by_cases h9 : v9 ≠ 0
   ·replace hF := ite_t h9 hF
    have h9_ := eqb_f h9
    have h9__ := neb_t h9
    refine CT (by simp [-List.reduceReplicate, sOf_set, ofI_set, allU8_set, F5, h9, h9_, h9__] <;> omega) ?_
    refine AW.skip ?_
    refine hK821 _ _ _ ?_
    refine AW.block ?_
    refine SQ [] [none, none, none, none, none] fun _ _ g r => ?_
    obtain ⟨v10, h10, h11, h12, hF⟩ := idx_elim hF
    have h12_ := get_of h12
    try simp [-List.reduceReplicate] at h12_
    have h11_ := h11
    try simp [-List.reduceReplicate] at h11_
    have F6 := And.intro F5 (And.intro h9 (And.intro h9_ (And.intro h9__ (And.intro h10 (And.intro h11 (And.intro h12 (And.intro h12_ h11_)))))))
    try simp [-List.reduceReplicate, sOf_set, ofI_set, allU8_set, F6]
    and_intros <;> first | exact g _ (by kernel_rfl) | refine r _ _ _ ?_ | omega | (simp [-List.reduceReplicate, sOf_set, ofI_set, allU8_set, maxLen, F6] <;> omega)
    refine WK [(1, AV.ptr 0 0), (4, AV.slc 1 0 1 v5.length true), (5, Lz v6), (6, Iz v8), (8, Iz v10)] [(0, .cells [Iz v0, AV.lst false false (List.map api_Arc.av v1)]), (1, .cells (List.map (AV.int .i64) v5))] 2 (by simp [-List.reduceReplicate, sOf_set, ofI_set, allU8_set, F6]) (by simp [-List.reduceReplicate, sOf_set, ofI_set, allU8_set, F6]) ?_
    refine SQ [] [none, none] fun _ _ g r => ?_
    try simp [-List.reduceReplicate, sOf_set, ofI_set, allU8_set, F6]
    and_intros <;> first | exact g _ (by kernel_rfl) | refine r _ _ _ ?_ | omega | (simp [-List.reduceReplicate, sOf_set, ofI_set, allU8_set, maxLen, F6] <;> omega)
    refine WK [(1, AV.ptr 0 0), (4, AV.slc 1 0 1 v5.length true), (5, Lz v6), (6, Iz v8), (8, Iz v10), (33, AV.bool (decide (0 < v10)))] [(0, .cells [Iz v0, AV.lst false false (List.map api_Arc.av v1)]), (1, .cells (List.map (AV.int .i64) v5))] 2 (by simp [-List.reduceReplicate, sOf_set, ofI_set, allU8_set, F6]) (by simp [-List.reduceReplicate, sOf_set, ofI_set, allU8_set, F6]) ?_
    by_cases h13 : 0 < v10
    ·replace hF := ite_t h13 hF
     have h13_ := h13
     try simp [-List.reduceReplicate] at h13_
     have F7 := And.intro F6 (And.intro h13 h13_)
     refine CT (by simp [-List.reduceReplicate, sOf_set, ofI_set, allU8_set, F7] <;> omega) ?_
     refine RG [] [none, none, none, none, none, none, none, none, none, none, none, none, none, none, none, none, none, none, none, none, none, none, none, none] fun _ _ g r => ?_
     obtain ⟨v11, h14, h15, h16, hF⟩ := idx_elim hF
     have h16_ := get_of h16
     try simp [-List.reduceReplicate] at h16_
     have h15_ := h15
     try simp [-List.reduceReplicate] at h15_
     obtain ⟨⟨h17, h18⟩, hF⟩ := chk_elim hF
     have h18_ := ne_of_lt h18
     obtain ⟨v12, h19, h20, h21, hF⟩ := idx_elim hF
     have h21_ := get_of h21
     try simp [-List.reduceReplicate] at h21_
     have h20_ := h20
     try simp [-List.reduceReplicate] at h20_
     obtain ⟨v13, h22, hF⟩ := let1_elim hF
     have h22_ := h22
     try simp [-List.reduceReplicate] at h22_
     have F8 := And.intro F7 (And.intro h14 (And.intro h15 (And.intro h16 (And.intro h16_ (And.intro h15_ (And.intro h17 (And.intro h18 (And.intro h18_ (And.intro h19 (And.intro h20 (And.intro h21 (And.intro h21_ (And.intro h20_ (And.intro h22 h22_))))))))))))))
     try simp [-List.reduceReplicate, sOf_set, ofI_set, allU8_set, F8]
     and_intros <;> first | exact g _ (by kernel_rfl) | refine r _ _ _ ?_ | omega | (simp [-List.reduceReplicate, sOf_set, ofI_set, allU8_set, maxLen, F8] <;> omega)
     refine hK819 _ _ _ ?_
     exact NX (k' := n2) ((v13, v11.From)) hF (by simp [-List.reduceReplicate, sOf_set, ofI_set, allU8_set, F8]) (by simp [-List.reduceReplicate, sOf_set, ofI_set, allU8_set, F8])
    ·replace hF := ite_f h13 hF
     have h13_ := h13
     try simp [-List.reduceReplicate] at h13_
     have F9 := And.intro F6 (And.intro h13 h13_)
     refine CF (by simp [-List.reduceReplicate, sOf_set, ofI_set, allU8_set, F9] <;> omega) ?_
     refine RG [] [none, none, none, none, none, none, none, none, none, none, none, none, none, none, none, none, none, none] fun _ _ g r => ?_
     obtain ⟨⟨h23, h24⟩, hF⟩ := chk_elim hF
     have h24_ := ne_of_lt h24
     obtain ⟨v14, h25, h26, h27, hF⟩ := idx_elim hF
     have h27_ := get_of h27
     try simp [-List.reduceReplicate] at h27_
     have h26_ := h26
     try simp [-List.reduceReplicate] at h26_
     obtain ⟨v15, h28, hF⟩ := let1_elim hF
     have h28_ := h28
     try simp [-List.reduceReplicate] at h28_
     obtain ⟨v16, h29, h30, h31, hF⟩ := idx_elim hF
     have h31_ := get_of h31
     try simp [-List.reduceReplicate] at h31_
     have h30_ := h30
     try simp [-List.reduceReplicate] at h30_
     have F10 := And.intro F9 (And.intro h23 (And.intro h24 (And.intro h24_ (And.intro h25 (And.intro h26 (And.intro h27 (And.intro h27_ (And.intro h26_ (And.intro h28 (And.intro h28_ (And.intro h29 (And.intro h30 (And.intro h31 (And.intro h31_ h30_))))))))))))))
     try simp [-List.reduceReplicate, sOf_set, ofI_set, allU8_set, F10]
     and_intros <;> first | exact g _ (by kernel_rfl) | refine r _ _ _ ?_ | omega | (simp [-List.reduceReplicate, sOf_set, ofI_set, allU8_set, maxLen, F10] <;> omega)
     refine hK819 _ _ _ ?_
     exact NX (k' := n2) ((v15, v16.To)) hF (by simp [-List.reduceReplicate, sOf_set, ofI_set, allU8_set, F10]) (by simp [-List.reduceReplicate, sOf_set, ofI_set, allU8_set, F10])
   ·replace hF := ite_f h9 hF
    have h9q : v9 = 0 := Classical.not_not.1 h9
    have h9_ := eqb_t h9q
    have h9__ := neb_f h9q
    have F11 := And.intro F5 (And.intro h9_ (And.intro h9__ h9q))
    refine CF (by simp [-List.reduceReplicate, sOf_set, ofI_set, allU8_set, F11] <;> omega) ?_
    refine AW.exit ?_
    try simp [-List.reduceReplicate]
    refine hK796 _ _ _ ?_
    refine SQ [] [none] fun _ _ g r => ?_
    try simp [-List.reduceReplicate, sOf_set, ofI_set, allU8_set, F11]
    and_intros <;> first | exact g _ (by kernel_rfl) | refine r _ _ _ ?_ | omega | (simp [-List.reduceReplicate, sOf_set, ofI_set, allU8_set, maxLen, F11] <;> omega)
    refine WK [(1, AV.ptr 0 0), (4, AV.slc 1 0 1 v5.length true), (5, Lz v6), (6, Iz v8), (9, Iz 1)] [(0, .cells [Iz v0, AV.lst false false (List.map api_Arc.av v1)]), (1, .cells (List.map (AV.int .i64) v5))] 2 (by simp [-List.reduceReplicate, sOf_set, ofI_set, allU8_set, F11]) (by simp [-List.reduceReplicate, sOf_set, ofI_set, allU8_set, F11]) ?_
    refine AW.block ?_
    refine AW.loopF (α := (Int × (List Int))) (fun n (v17, v18) => ref15_Max.L3 k v1 v6 v8 (fun v5_ => ref15_Max.L1 k v0 v1 n1 v5_) n v17 v18 = some (v2, v3)) (fun (v17, v18) => [(1, AV.ptr 0 0), (4, AV.slc 1 0 1 v18.length true), (5, Lz v6), (6, Iz v8), (9, Iz v17)]) (fun (v17, v18) => [(0, .cells [Iz v0, AV.lst false false (List.map api_Arc.av v1)]), (1, .cells (List.map (AV.int .i64) v18))]) 2 k ((1, v5)) hF (by simp [-List.reduceReplicate, sOf_set, ofI_set, allU8_set, F11]) (by simp [-List.reduceReplicate, sOf_set, ofI_set, allU8_set, F11]) (by simp) ?_
    rintro (_|n3) ⟨v17, v18⟩ hF K855 hK855
    ·try dsimp only at hF
     rw [ref15_Max.L3] at hF; cases hF
    try dsimp only at hF
    rw [ref15_Max.L3] at hF
    refine AW.seq fun K857 hK857 => ?_
    refine SQ [] [none, none] fun _ _ g r => ?_
    try simp [-List.reduceReplicate, sOf_set, ofI_set, allU8_set, F11]
    and_intros <;> first | exact g _ (by kernel_rfl) | refine r _ _ _ ?_ | omega | (simp [-List.reduceReplicate, sOf_set, ofI_set, allU8_set, maxLen, F11] <;> omega)
    refine WK [(1, AV.ptr 0 0), (4, AV.slc 1 0 1 v18.length true), (5, Lz v6), (6, Iz v8), (9, Iz v17), (73, AV.bool (v17 != 0))] [(0, .cells [Iz v0, AV.lst false false (List.map api_Arc.av v1)]), (1, .cells (List.map (AV.int .i64) v18))] 2 (by simp [-List.reduceReplicate, sOf_set, ofI_set, allU8_set, F11]) (by simp [-List.reduceReplicate, sOf_set, ofI_set, allU8_set, F11]) ?_
    by_cases h32 : v17 ≠ 0
    ·replace hF := ite_t h32 hF
     have h32_ := eqb_f h32
     have h32__ := neb_t h32
     refine CT (by simp [-List.reduceReplicate, sOf_set, ofI_set, allU8_set, F11, h32, h32_, h32__] <;> omega) ?_
     refine AW.skip ?_
     refine hK857 _ _ _ ?_
     refine AW.block ?_
     refine SQ [] [none, none, none, none, none] fun _ _ g r => ?_
     obtain ⟨v19, h33, h34, h35, hF⟩ := idx_elim hF
     have h35_ := get_of h35
     try simp [-List.reduceReplicate] at h35_
     have h34_ := h34
     try simp [-List.reduceReplicate] at h34_
     have F12 := And.intro F11 (And.intro h32 (And.intro h32_ (And.intro h32__ (And.intro h33 (And.intro h34 (And.intro h35 (And.intro h35_ h34_)))))))
     try simp [-List.reduceReplicate, sOf_set, ofI_set, allU8_set, F12]
     and_intros <;> first | exact g _ (by kernel_rfl) | refine r _ _ _ ?_ | omega | (simp [-List.reduceReplicate, sOf_set, ofI_set, allU8_set, maxLen, F12] <;> omega)
     refine WK [(1, AV.ptr 0 0), (4, AV.slc 1 0 1 v18.length true), (5, Lz v6), (6, Iz v8), (10, Iz v19)] [(0, .cells [Iz v0, AV.lst false false (List.map api_Arc.av v1)]), (1, .cells (List.map (AV.int .i64) v18))] 2 (by simp [-List.reduceReplicate, sOf_set, ofI_set, allU8_set, F12]) (by simp [-List.reduceReplicate, sOf_set, ofI_set, allU8_set, F12]) ?_
     refine SQ [] [none, none] fun _ _ g r => ?_
     try simp [-List.reduceReplicate, sOf_set, ofI_set, allU8_set, F12]
     and_intros <;> first | exact g _ (by kernel_rfl) | refine r _ _ _ ?_ | omega | (simp [-List.reduceReplicate, sOf_set, ofI_set, allU8_set, maxLen, F12] <;> omega)
     refine WK [(1, AV.ptr 0 0), (4, AV.slc 1 0 1 v18.length true), (5, Lz v6), (6, Iz v8), (10, Iz v19), (79, AV.bool (decide (0 < v19)))] [(0, .cells [Iz v0, AV.lst false false (List.map api_Arc.av v1)]), (1, .cells (List.map (AV.int .i64) v18))] 2 (by simp [-List.reduceReplicate, sOf_set, ofI_set, allU8_set, F12]) (by simp [-List.reduceReplicate, sOf_set, ofI_set, allU8_set, F12]) ?_
     by_cases h36 : 0 < v19
     ·replace hF := ite_t h36 hF
      have h36_ := h36
      try simp [-List.reduceReplicate] at h36_
      have F13 := And.intro F12 (And.intro h36 h36_)
      refine CT (by simp [-List.reduceReplicate, sOf_set, ofI_set, allU8_set, F13] <;> omega) ?_
      refine SQ [] [none, none, none, none, none, none, none, none, none] fun _ _ g r => ?_
      obtain ⟨⟨h37, h38⟩, hF⟩ := chk_elim hF
      have h38_ := ne_of_lt h38
      obtain ⟨v20, h39, h40, h41, hF⟩ := idx_elim hF
      have h41_ := get_of h41
      try simp [-List.reduceReplicate] at h41_
      have h40_ := h40
      try simp [-List.reduceReplicate] at h40_
      obtain ⟨⟨h42, h43⟩, hF⟩ := chk_elim hF
      have h43_ := ne_of_lt h43
      have F14 := And.intro F13 (And.intro h37 (And.intro h38 (And.intro h38_ (And.intro h39 (And.intro h40 (And.intro h41 (And.intro h41_ (And.intro h40_ (And.intro h42 (And.intro h43 h43_))))))))))
      try simp [-List.reduceReplicate, sOf_set, ofI_set, allU8_set, F14]
      and_intros <;> first | exact g _ (by kernel_rfl) | refine r _ _ _ ?_ | omega | (simp [-List.reduceReplicate, sOf_set, ofI_set, allU8_set, maxLen, F14] <;> omega)
      refine WK [(1, AV.ptr 0 0), (4, AV.slc 1 0 1 ((v18.set (IntKind.wrap .i64 (v19 - 1)).toNat (IntKind.wrap .i64 (v20 + v8))).length) true), (5, Lz v6), (6, Iz v8), (10, Iz v19)] [(0, .cells [Iz v0, AV.lst false false (List.map api_Arc.av v1)]), (1, .cells (List.map (AV.int .i64) (v18.set (IntKind.wrap .i64 (v19 - 1)).toNat (IntKind.wrap .i64 (v20 + v8)))))] 2 (by simp [-List.reduceReplicate, sOf_set, ofI_set, allU8_set, F14]) (by simp [-List.reduceReplicate, sOf_set, ofI_set, allU8_set, F14]) ?_
      refine RG [] [none, none, none, none, none, none, none, none] fun _ _ g r => ?_
      obtain ⟨v21, h44, h45, h46, hF⟩ := idx_elim hF
      have h46_ := get_of h46
      try simp [-List.reduceReplicate] at h46_
      have h45_ := h45
      try simp [-List.reduceReplicate] at h45_
      have F15 := And.intro F14 (And.intro h44 (And.intro h45 (And.intro h46 (And.intro h46_ h45_))))
      try simp [-List.reduceReplicate, sOf_set, ofI_set, allU8_set, F15]
      and_intros <;> first | exact g _ (by kernel_rfl) | refine r _ _ _ ?_ | omega | (simp [-List.reduceReplicate, sOf_set, ofI_set, allU8_set, maxLen, F15] <;> omega)
      refine hK855 _ _ _ ?_
      exact NX (k' := n3) ((v21.From, v18.set (IntKind.wrap .i64 (v19 - 1)).toNat (IntKind.wrap .i64 (v20 + v8)))) hF (by simp [-List.reduceReplicate, sOf_set, ofI_set, allU8_set, F15]) (by simp [-List.reduceReplicate, sOf_set, ofI_set, allU8_set, F15])
     ·replace hF := ite_f h36 hF
      have h36_ := h36
      try simp [-List.reduceReplicate] at h36_
      have F16 := And.intro F12 (And.intro h36 h36_)
      refine CF (by simp [-List.reduceReplicate, sOf_set, ofI_set, allU8_set, F16] <;> omega) ?_
      refine SQ [] [none, none, none, none, none, none, none, none, none, none] fun _ _ g r => ?_
      obtain ⟨⟨h47, h48⟩, hF⟩ := chk_elim hF
      have h48_ := ne_of_lt h48
      obtain ⟨v22, h49, h50, h51, hF⟩ := idx_elim hF
      have h51_ := get_of h51
      try simp [-List.reduceReplicate] at h51_
      have h50_ := h50
      try simp [-List.reduceReplicate] at h50_
      obtain ⟨⟨h52, h53⟩, hF⟩ := chk_elim hF
      have h53_ := ne_of_lt h53
      have F17 := And.intro F16 (And.intro h47 (And.intro h48 (And.intro h48_ (And.intro h49 (And.intro h50 (And.intro h51 (And.intro h51_ (And.intro h50_ (And.intro h52 (And.intro h53 h53_))))))))))
      try simp [-List.reduceReplicate, sOf_set, ofI_set, allU8_set, F17]
      and_intros <;> first | exact g _ (by kernel_rfl) | refine r _ _ _ ?_ | omega | (simp [-List.reduceReplicate, sOf_set, ofI_set, allU8_set, maxLen, F17] <;> omega)
      refine WK [(1, AV.ptr 0 0), (4, AV.slc 1 0 1 ((v18.set (IntKind.wrap .i64 (IntKind.wrap .i64 (-v19) - 1)).toNat (IntKind.wrap .i64 (v22 - v8))).length) true), (5, Lz v6), (6, Iz v8), (10, Iz v19)] [(0, .cells [Iz v0, AV.lst false false (List.map api_Arc.av v1)]), (1, .cells (List.map (AV.int .i64) (v18.set (IntKind.wrap .i64 (IntKind.wrap .i64 (-v19) - 1)).toNat (IntKind.wrap .i64 (v22 - v8)))))] 2 (by simp [-List.reduceReplicate, sOf_set, ofI_set, allU8_set, F17]) (by simp [-List.reduceReplicate, sOf_set, ofI_set, allU8_set, F17]) ?_
      refine RG [] [none, none, none, none, none, none, none, none, none] fun _ _ g r => ?_
      obtain ⟨v23, h54, h55, h56, hF⟩ := idx_elim hF
      have h56_ := get_of h56
      try simp [-List.reduceReplicate] at h56_
      have h55_ := h55
      try simp [-List.reduceReplicate] at h55_
      have F18 := And.intro F17 (And.intro h54 (And.intro h55 (And.intro h56 (And.intro h56_ h55_))))
      try simp [-List.reduceReplicate, sOf_set, ofI_set, allU8_set, F18]
      and_intros <;> first | exact g _ (by kernel_rfl) | refine r _ _ _ ?_ | omega | (simp [-List.reduceReplicate, sOf_set, ofI_set, allU8_set, maxLen, F18] <;> omega)
      refine hK855 _ _ _ ?_
      exact NX (k' := n3) ((v23.To, v18.set (IntKind.wrap .i64 (IntKind.wrap .i64 (-v19) - 1)).toNat (IntKind.wrap .i64 (v22 - v8)))) hF (by simp [-List.reduceReplicate, sOf_set, ofI_set, allU8_set, F18]) (by simp [-List.reduceReplicate, sOf_set, ofI_set, allU8_set, F18])
    ·replace hF := ite_f h32 hF
     have h32q : v17 = 0 := Classical.not_not.1 h32
     have h32_ := eqb_t h32q
     have h32__ := neb_f h32q
     have F19 := And.intro F11 (And.intro h32_ (And.intro h32__ h32q))
     refine CF (by simp [-List.reduceReplicate, sOf_set, ofI_set, allU8_set, F19] <;> omega) ?_
     refine AW.exit ?_
     try simp [-List.reduceReplicate]
     refine hK758 _ _ _ ?_
     exact NX (k' := n1) (v18) hF (by simp [-List.reduceReplicate, sOf_set, ofI_set, allU8_set, F19]) (by simp [-List.reduceReplicate, sOf_set, ofI_set, allU8_set, F19])
theorem w_ref15_Valid (k : Nat) (v0 : Int) (v1 : (List api_Arc)) (v2 : (List Int)) (v3 : Bool) (hF : ref15_Valid k v0 v1 v2 = some v3) :
  FCall Try.prog 24 [AV.agg [AV.int .i64 v0, AV.lst false false (List.map api_Arc.av v1)], AV.lst false false (List.map (AV.int .i64) v2)] [] (AV.bool v3) [] := by
 unfold ref15_Valid at hF
 refine EN Try.func24 ?_
 intro c0 w0 Q h0 hQ
 refine WK [(0, AV.agg [Iz v0, AV.lst false false (List.map api_Arc.av v1)]), (1, Lz v2)] [] 0 (by simp [-List.reduceReplicate, sOf_set, ofI_set, allU8_set]) (by simp [-List.reduceReplicate, sOf_set, ofI_set, allU8_set]) ?_
 refine SQ [] [none, none] fun _ _ g r => ?_
 try simp [-List.reduceReplicate, sOf_set, ofI_set, allU8_set]
 and_intros <;> first | exact g _ (by kernel_rfl) | refine r _ _ _ ?_ | omega | (simp [-List.reduceReplicate, sOf_set, ofI_set, allU8_set, maxLen] <;> omega)
 refine WK [(1, Lz v2), (2, AV.ptr 0 0)] [(0, .cells [Iz v0, AV.lst false false (List.map api_Arc.av v1)])] 1 (by simp [-List.reduceReplicate, sOf_set, ofI_set, allU8_set]) (by simp [-List.reduceReplicate, sOf_set, ofI_set, allU8_set]) ?_
 refine AW.seq fun K281 hK281 => ?_
 refine SQ [] [none, none, none, none, some (11, false), some (11, false), some (11, false), some (11, false), some (11, false), some (11, false), none] fun _ _ g r => ?_
 try simp [-List.reduceReplicate, sOf_set, ofI_set, allU8_set]
 and_intros
 try any_goals first | omega | (simp [-List.reduceReplicate, sOf_set, ofI_set, allU8_set, maxLen] <;> omega)
 obtain ⟨v4, h1, hF⟩ := bnd1_elim hF
 refine AC (w_ref15_Check k _ _ _ h1) (.cons (.same (by simp)) .nil) ?_
 by_cases h2 : v4 ≠ 0
 ·replace hF := ite_t h2 hF
  have h2_ := eqb_f h2
  have h2__ := neb_t h2
  have F1 := And.intro h2 (And.intro h2_ h2__)
  try simp [-List.reduceReplicate, sOf_set, ofI_set, allU8_set, F1]
  and_intros <;> first | exact g _ (by kernel_rfl) | refine r _ _ _ ?_ | omega | (simp [-List.reduceReplicate, sOf_set, ofI_set, allU8_set, maxLen, F1] <;> omega)
  refine WK [(1, Lz v2), (2, AV.ptr 0 0), (18, AV.bool true)] [(0, .cells [Iz v0, AV.lst false false (List.map api_Arc.av v1)])] 1 (by simp [-List.reduceReplicate, sOf_set, ofI_set, allU8_set, F1]) (by simp [-List.reduceReplicate, sOf_set, ofI_set, allU8_set, F1]) ?_
  refine CT (by simp [-List.reduceReplicate, sOf_set, ofI_set, allU8_set, F1]) ?_
  refine SQ [] [none] fun _ _ g r => ?_
  try simp [-List.reduceReplicate, sOf_set, ofI_set, allU8_set, F1]
  and_intros <;> first | exact g _ (by kernel_rfl) | refine r _ _ _ ?_ | omega | (simp [-List.reduceReplicate, sOf_set, ofI_set, allU8_set, maxLen, F1] <;> omega)
  refine WK [(4, AV.bool false)] [] 1 (by simp [-List.reduceReplicate, sOf_set, ofI_set, allU8_set, F1]) (by simp [-List.reduceReplicate, sOf_set, ofI_set, allU8_set, F1]) ?_
  simp only [Option.some.injEq] at hF
  subst hF
  refine AW.ret (hQ _ _ _ ?_ (matchO_0 ?_)).1
  ·simp [Try.f24, F1]
  ·simp [F1]
 ·replace hF := ite_f h2 hF
  have h2q : v4 = 0 := Classical.not_not.1 h2
  have h2_ := eqb_t h2q
  have h2__ := neb_f h2q
  have F2 := And.intro h2_ (And.intro h2__ h2q)
  try simp [-List.reduceReplicate, sOf_set, ofI_set, allU8_set, F2]
  and_intros <;> first | exact g _ (by kernel_rfl) | refine r _ _ _ ?_ | omega | (simp [-List.reduceReplicate, sOf_set, ofI_set, allU8_set, maxLen, F2] <;> omega)
  refine WK [(1, Lz v2), (2, AV.ptr 0 0), (18, AV.bool ((v2.length : Int) != (v1.length : Int)))] [(0, .cells [Iz v0, AV.lst false false (List.map api_Arc.av v1)])] 1 (by simp [-List.reduceReplicate, sOf_set, ofI_set, allU8_set, F2]) (by simp [-List.reduceReplicate, sOf_set, ofI_set, allU8_set, F2]) ?_
  by_cases h3 : (v2.length : Int) ≠ (v1.length : Int)
  ·replace hF := ite_t h3 hF
   have h3_ := eqb_f h3
   have h3__ := neb_t h3
   have F3 := And.intro F2 (And.intro h3 (And.intro h3_ h3__))
   refine CT (by simp [-List.reduceReplicate, sOf_set, ofI_set, allU8_set, F3] <;> omega) ?_
   refine SQ [] [none] fun _ _ g r => ?_
   try simp [-List.reduceReplicate, sOf_set, ofI_set, allU8_set, F3]
   and_intros <;> first | exact g _ (by kernel_rfl) | refine r _ _ _ ?_ | omega | (simp [-List.reduceReplicate, sOf_set, ofI_set, allU8_set, maxLen, F3] <;> omega)
   refine WK [(4, AV.bool false)] [] 1 (by simp [-List.reduceReplicate, sOf_set, ofI_set, allU8_set, F3]) (by simp [-List.reduceReplicate, sOf_set, ofI_set, allU8_set, F3]) ?_
   simp only [Option.some.injEq] at hF
   subst hF
   refine AW.ret (hQ _ _ _ ?_ (matchO_0 ?_)).1
   ·simp [Try.f24, F3]
   ·simp [F3]
  ·replace hF := ite_f h3 hF
   have h3q : (v2.length : Int) = (v1.length : Int) := Classical.not_not.1 h3
   have h3_ := eqb_t h3q
   have h3__ := neb_f h3q
   refine CF (by simp [-List.reduceReplicate, sOf_set, ofI_set, allU8_set, F2, h3_, h3__] <;> omega) ?_
   refine AW.skip ?_
   refine hK281 _ _ _ ?_
   refine SQ [21] [none, none, none, none] fun _ _ g r => ?_
   obtain ⟨h4, hF⟩ := chk_elim hF
   have F4 := And.intro F2 (And.intro h3_ (And.intro h3__ h4))
   try simp [-List.reduceReplicate, sOf_set, ofI_set, allU8_set, F4]
   and_intros <;> first | exact g _ (by kernel_rfl) | refine r _ _ _ ?_ | omega | (simp [-List.reduceReplicate, sOf_set, ofI_set, allU8_set, maxLen, F4] <;> omega)
   refine WK [(1, Lz v2), (2, AV.ptr 0 0), (5, AV.slc 1 0 1 ((List.replicate (v0).toNat (0 : Int)).length) true)] [(0, .cells [Iz v0, AV.lst false false (List.map api_Arc.av v1)]), (1, .cells (List.map (AV.int .i64) (List.replicate (v0).toNat (0 : Int))))] 2 (by simp [-List.reduceReplicate, sOf_set, ofI_set, allU8_set, F4]) (by simp [-List.reduceReplicate, sOf_set, ofI_set, allU8_set, F4]) ?_
   refine AW.seq fun K380 hK380 => ?_
   refine SQ [] [none] fun _ _ g r => ?_
   try simp [-List.reduceReplicate, sOf_set, ofI_set, allU8_set, F4]
   and_intros <;> first | exact g _ (by kernel_rfl) | refine r _ _ _ ?_ | omega | (simp [-List.reduceReplicate, sOf_set, ofI_set, allU8_set, maxLen, F4] <;> omega)
   refine WK [(1, Lz v2), (2, AV.ptr 0 0), (5, AV.slc 1 0 1 ((List.replicate (v0).toNat (0 : Int)).length) true), (6, Iz 0)] [(0, .cells [Iz v0, AV.lst false false (List.map api_Arc.av v1)]), (1, .cells (List.map (AV.int .i64) (List.replicate (v0).toNat (0 : Int))))] 2 (by simp [-List.reduceReplicate, sOf_set, ofI_set, allU8_set, F4]) (by simp [-List.reduceReplicate, sOf_set, ofI_set, allU8_set, F4]) ?_
   refine AW.block ?_
   refine AW.loopF (α := (Int × (List Int))) (fun n (v5, v6) => ref15_Valid.L1 k v0 v1 v2 n v5 v6 = some v3) (fun (v5, v6) => [(1, Lz v2), (2, AV.ptr 0 0), (5, AV.slc 1 0 1 v6.length true), (6, Iz v5)]) (fun (v5, v6) => [(0, .cells [Iz v0, AV.lst false false (List.map api_Arc.av v1)]), (1, .cells (List.map (AV.int .i64) v6))]) 2 k ((0, (List.replicate (v0).toNat (0 : Int)))) hF (by simp [-List.reduceReplicate, sOf_set, ofI_set, allU8_set, F4]) (by simp [-List.reduceReplicate, sOf_set, ofI_set, allU8_set, F4]) (by simp) ?_
   rintro (_|n1) ⟨v5, v6⟩ hF K451 hK451
   ·try dsimp only at hF
    rw [ref15_Valid.L1] at hF; cases hF
   try dsimp only at hF
   rw [ref15_Valid.L1] at hF
   refine AW.seq fun K453 hK453 => ?_
   refine SQ [] [none, none, none, none] fun _ _ g r => ?_
   try simp [-List.reduceReplicate, sOf_set, ofI_set, allU8_set, F4]
   and_intros <;> first | exact g _ (by kernel_rfl) | refine r _ _ _ ?_ | omega | (simp [-List.reduceReplicate, sOf_set, ofI_set, allU8_set, maxLen, F4] <;> omega)
   refine WK [(1, Lz v2), (2, AV.ptr 0 0), (5, AV.slc 1 0 1 v6.length true), (6, Iz v5), (25, AV.bool (decide (v5 < (v2.length : Int))))] [(0, .cells [Iz v0, AV.lst false false (List.map api_Arc.av v1)]), (1, .cells (List.map (AV.int .i64) v6))] 2 (by simp [-List.reduceReplicate, sOf_set, ofI_set, allU8_set, F4]) (by simp [-List.reduceReplicate, sOf_set, ofI_set, allU8_set, F4]) ?_
   by_cases h5 : v5 < (v2.length : Int)
   ·replace hF := ite_t h5 hF
    have h5_ := h5
    try simp [-List.reduceReplicate] at h5_
    have F5 := And.intro F4 (And.intro h5 h5_)
    refine CT (by simp [-List.reduceReplicate, sOf_set, ofI_set, allU8_set, F5] <;> omega) ?_
    refine AW.skip ?_
    refine hK453 _ _ _ ?_
    refine AW.seq fun K464 hK464 => ?_
    refine AW.block ?_
    refine AW.seq fun K468 hK468 => ?_
    refine SQ [] [none, none, none, none, none, none, some (33, false), some (33, false), some (33, false), some (33, false), some (33, false), some (33, false), some (33, false), some (33, false), some (33, false), some (33, false), some (33, false), none] fun _ _ g r => ?_
    obtain ⟨v7, h6, h7, h8, hF⟩ := idx_elim hF
    have h8_ := get_of h8
    try simp [-List.reduceReplicate] at h8_
    have h7_ := h7
    try simp [-List.reduceReplicate] at h7_
    by_cases h9 : v7 < 0
    ·replace hF := ite_t h9 hF
     have h9_ := h9
     try simp [-List.reduceReplicate] at h9_
     have F6 := And.intro F5 (And.intro h6 (And.intro h7 (And.intro h8 (And.intro h8_ (And.intro h7_ (And.intro h9 h9_))))))
     try simp [-List.reduceReplicate, sOf_set, ofI_set, allU8_set, F6]
     and_intros <;> first | exact g _ (by kernel_rfl) | refine r _ _ _ ?_ | omega | (simp [-List.reduceReplicate, sOf_set, ofI_set, allU8_set, maxLen, F6] <;> omega)
     refine WK [(1, Lz v2), (2, AV.ptr 0 0), (5, AV.slc 1 0 1 v6.length true), (6, Iz v5), (45, AV.bool true)] [(0, .cells [Iz v0, AV.lst false false (List.map api_Arc.av v1)]), (1, .cells (List.map (AV.int .i64) v6))] 2 (by simp [-List.reduceReplicate, sOf_set, ofI_set, allU8_set, F6]) (by simp [-List.reduceReplicate, sOf_set, ofI_set, allU8_set, F6]) ?_
     refine CT (by simp [-List.reduceReplicate, sOf_set, ofI_set, allU8_set, F6]) ?_
     refine SQ [] [none] fun _ _ g r => ?_
     try simp [-List.reduceReplicate, sOf_set, ofI_set, allU8_set, F6]
     and_intros <;> first | exact g _ (by kernel_rfl) | refine r _ _ _ ?_ | omega | (simp [-List.reduceReplicate, sOf_set, ofI_set, allU8_set, maxLen, F6] <;> omega)
     refine WK [(4, AV.bool false)] [] 2 (by simp [-List.reduceReplicate, sOf_set, ofI_set, allU8_set, F6]) (by simp [-List.reduceReplicate, sOf_set, ofI_set, allU8_set, F6]) ?_
     simp only [Option.some.injEq] at hF
     subst hF
     refine AW.ret (hQ _ _ _ ?_ (matchO_0 ?_)).1
     ·simp [Try.f24, F6]
     ·simp [F6]
    ·replace hF := ite_f h9 hF
     have h9_ := h9
     try simp [-List.reduceReplicate] at h9_
     obtain ⟨v8, h10, h11, h12, hF⟩ := idx_elim hF
     have h12_ := get_of h12
     try simp [-List.reduceReplicate] at h12_
     have h11_ := h11
     try simp [-List.reduceReplicate] at h11_
     have F7 := And.intro F5 (And.intro h6 (And.intro h7 (And.intro h8 (And.intro h8_ (And.intro h7_ (And.intro h9 (And.intro h9_ (And.intro h10 (And.intro h11 (And.intro h12 (And.intro h12_ h11_)))))))))))
     try simp [-List.reduceReplicate, sOf_set, ofI_set, allU8_set, F7]
     and_intros <;> first | exact g _ (by kernel_rfl) | refine r _ _ _ ?_ | omega | (simp [-List.reduceReplicate, sOf_set, ofI_set, allU8_set, maxLen, F7] <;> omega)
     refine WK [(1, Lz v2), (2, AV.ptr 0 0), (5, AV.slc 1 0 1 v6.length true), (6, Iz v5), (45, AV.bool (decide (v8.Cap < v7)))] [(0, .cells [Iz v0, AV.lst false false (List.map api_Arc.av v1)]), (1, .cells (List.map (AV.int .i64) v6))] 2 (by simp [-List.reduceReplicate, sOf_set, ofI_set, allU8_set, F7]) (by simp [-List.reduceReplicate, sOf_set, ofI_set, allU8_set, F7]) ?_
     by_cases h13 : v8.Cap < v7
     ·replace hF := ite_t h13 hF
      have h13_ := h13
      try simp [-List.reduceReplicate] at h13_
      have F8 := And.intro F7 (And.intro h13 h13_)
      refine CT (by simp [-List.reduceReplicate, sOf_set, ofI_set, allU8_set, F8] <;> omega) ?_
      refine SQ [] [none] fun _ _ g r => ?_
      try simp [-List.reduceReplicate, sOf_set, ofI_set, allU8_set, F8]
      and_intros <;> first | exact g _ (by kernel_rfl) | refine r _ _ _ ?_ | omega | (simp [-List.reduceReplicate, sOf_set, ofI_set, allU8_set, maxLen, F8] <;> omega)
      refine WK [(4, AV.bool false)] [] 2 (by simp [-List.reduceReplicate, sOf_set, ofI_set, allU8_set, F8]) (by simp [-List.reduceReplicate, sOf_set, ofI_set, allU8_set, F8]) ?_
      simp only [Option.some.injEq] at hF
      subst hF
      refine AW.ret (hQ _ _ _ ?_ (matchO_0 ?_)).1
      ·simp [Try.f24, F8]
      ·simp [F8]
     ·replace hF := ite_f h13 hF
      have h13_ := h13
      try simp [-List.reduceReplicate] at h13_
      have F9 := And.intro F7 (And.intro h13 h13_)
      refine CF (by simp [-List.reduceReplicate, sOf_set, ofI_set, allU8_set, F9] <;> omega) ?_
      refine AW.skip ?_
      refine hK468 _ _ _ ?_
      refine SQ [] [none, none, none, none, none, none, none, none, none, none, none, none, none, none, none, none] fun _ _ g r => ?_
      obtain ⟨⟨h14, h15⟩, hF⟩ := chk_elim hF
      have h15_ := ne_of_lt h15
      obtain ⟨v9, h16, h17, h18, hF⟩ := idx_elim hF
      have h18_ := get_of h18
      try simp [-List.reduceReplicate] at h18_
      have h17_ := h17
      try simp [-List.reduceReplicate] at h17_
      obtain ⟨⟨h19, h20⟩, hF⟩ := chk_elim hF
      have h20_ := ne_of_lt h20
      have F10 := And.intro F9 (And.intro h14 (And.intro h15 (And.intro h15_ (And.intro h16 (And.intro h17 (And.intro h18 (And.intro h18_ (And.intro h17_ (And.intro h19 (And.intro h20 h20_))))))))))
      try simp [-List.reduceReplicate, sOf_set, ofI_set, allU8_set, F10]
      and_intros <;> first | exact g _ (by kernel_rfl) | refine r _ _ _ ?_ | omega | (simp [-List.reduceReplicate, sOf_set, ofI_set, allU8_set, maxLen, F10] <;> omega)
      refine WK [(1, Lz v2), (2, AV.ptr 0 0), (5, AV.slc 1 0 1 ((v6.set (v8.From).toNat (IntKind.wrap .i64 (v9 - v7))).length) true), (6, Iz v5)] [(0, .cells [Iz v0, AV.lst false false (List.map api_Arc.av v1)]), (1, .cells (List.map (AV.int .i64) (v6.set (v8.From).toNat (IntKind.wrap .i64 (v9 - v7)))))] 2 (by simp [-List.reduceReplicate, sOf_set, ofI_set, allU8_set, F10]) (by simp [-List.reduceReplicate, sOf_set, ofI_set, allU8_set, F10]) ?_
      refine RG [] [none, none, none, none, none, none, none, none, none, none, none, none, none, none, none, none] fun _ _ g r => ?_
      obtain ⟨⟨h21, h22⟩, hF⟩ := chk_elim hF
      have h22_ := ne_of_lt h22
      obtain ⟨v10, h23, h24, h25, hF⟩ := idx_elim hF
      have h25_ := get_of h25
      try simp [-List.reduceReplicate] at h25_
      have h24_ := h24
      try simp [-List.reduceReplicate] at h24_
      have h25__ := get_of (map_get ((AV.int .i64)) h25)
      try simp at h25__
      obtain ⟨⟨h26, h27⟩, hF⟩ := chk_elim hF
      have h27_ := ne_of_lt h27
      have F11 := And.intro F10 (And.intro h21 (And.intro h22 (And.intro h22_ (And.intro h23 (And.intro h24 (And.intro h25 (And.intro h25_ (And.intro h24_ (And.intro h25__ (And.intro h26 (And.intro h27 h27_)))))))))))
      try simp [-List.reduceReplicate, sOf_set, ofI_set, allU8_set, F11]
      and_intros <;> first | exact g _ (by kernel_rfl) | refine r _ _ _ ?_ | omega | (simp [-List.reduceReplicate, sOf_set, ofI_set, allU8_set, maxLen, F11] <;> omega)
      refine hK464 _ _ _ ?_
      refine WK [(1, Lz v2), (2, AV.ptr 0 0), (5, AV.slc 1 0 1 (((v6.set (v8.From).toNat (IntKind.wrap .i64 (v9 - v7))).set (v8.To).toNat (IntKind.wrap .i64 (v10 + v7))).length) true), (6, Iz v5)] [(0, .cells [Iz v0, AV.lst false false (List.map api_Arc.av v1)]), (1, .cells (List.map (AV.int .i64) ((v6.set (v8.From).toNat (IntKind.wrap .i64 (v9 - v7))).set (v8.To).toNat (IntKind.wrap .i64 (v10 + v7)))))] 2 (by simp [-List.reduceReplicate, sOf_set, ofI_set, allU8_set, F11]) (by simp [-List.reduceReplicate, sOf_set, ofI_set, allU8_set, F11]) ?_
      refine RG [] [none, none, none] fun _ _ g r => ?_
      try simp [-List.reduceReplicate, sOf_set, ofI_set, allU8_set, F11]
      and_intros <;> first | exact g _ (by kernel_rfl) | refine r _ _ _ ?_ | omega | (simp [-List.reduceReplicate, sOf_set, ofI_set, allU8_set, maxLen, F11] <;> omega)
      refine hK451 _ _ _ ?_
      exact NX (k' := n1) ((IntKind.wrap .i64 (v5 + 1), (v6.set (v8.From).toNat (IntKind.wrap .i64 (v9 - v7))).set (v8.To).toNat (IntKind.wrap .i64 (v10 + v7)))) hF (by simp [-List.reduceReplicate, sOf_set, ofI_set, allU8_set, F11]) (by simp [-List.reduceReplicate, sOf_set, ofI_set, allU8_set, F11])
   ·replace hF := ite_f h5 hF
    have h5_ := h5
    try simp [-List.reduceReplicate] at h5_
    have F12 := And.intro F4 (And.intro h5 h5_)
    refine CF (by simp [-List.reduceReplicate, sOf_set, ofI_set, allU8_set, F12] <;> omega) ?_
    refine AW.exit ?_
    try simp [-List.reduceReplicate]
    refine hK380 _ _ _ ?_
    refine WK [(2, AV.ptr 0 0), (5, AV.slc 1 0 1 v6.length true)] [(0, .cells [Iz v0, AV.lst false false (List.map api_Arc.av v1)]), (1, .cells (List.map (AV.int .i64) v6))] 2 (by simp [-List.reduceReplicate, sOf_set, ofI_set, allU8_set, F12]) (by simp [-List.reduceReplicate, sOf_set, ofI_set, allU8_set, F12]) ?_
    refine AW.frz 1 (o := .cells (List.map (AV.int .i64) v6)) (by simp [-List.reduceReplicate, sOf_set, ofI_set, allU8_set, F12]) rfl [(5, AV.lst false true (List.map (AV.int .i64) v6))] [] ⟨(.l (by simp) (by simp) (by simp) (by simp)), trivial⟩ trivial ?_
    refine WK [(2, AV.ptr 0 0), (5, AV.lst false true (List.map (AV.int .i64) v6))] [(0, .cells [Iz v0, AV.lst false false (List.map api_Arc.av v1)])] 2 (by simp [-List.reduceReplicate, sOf_set, ofI_set, allU8_set, F12]) (by simp [-List.reduceReplicate, sOf_set, ofI_set, allU8_set, F12]) ?_
    refine AW.seq fun K513 hK513 => ?_
    refine SQ [] [none] fun _ _ g r => ?_
    try simp [-List.reduceReplicate, sOf_set, ofI_set, allU8_set, F12]
    and_intros <;> first | exact g _ (by kernel_rfl) | refine r _ _ _ ?_ | omega | (simp [-List.reduceReplicate, sOf_set, ofI_set, allU8_set, maxLen, F12] <;> omega)
    refine WK [(2, AV.ptr 0 0), (5, AV.lst false true (List.map (AV.int .i64) v6)), (7, Iz 2)] [(0, .cells [Iz v0, AV.lst false false (List.map api_Arc.av v1)])] 2 (by simp [-List.reduceReplicate, sOf_set, ofI_set, allU8_set, F12]) (by simp [-List.reduceReplicate, sOf_set, ofI_set, allU8_set, F12]) ?_
    refine AW.block ?_
    refine RM h0 [(0, 0)] [(2, AV.ptr 0 0), (5, AV.lst false true (List.map (AV.int .i64) v6)), (7, Iz 2)] [(0, .cells [Iz v0, AV.lst false false (List.map api_Arc.av v1)])] 1 (by simp [-List.reduceReplicate, sOf_set, ofI_set, allU8_set, F12]) (by simp [-List.reduceReplicate, sOf_set, ofI_set, allU8_set, F12]) ?_
    refine AW.loopF (α := Int) (fun n v11 => ref15_Valid.L2 k v0 v6 n v11 = some v3) (fun v11 => [(2, AV.ptr 0 0), (5, AV.lst false true (List.map (AV.int .i64) v6)), (7, Iz v11)]) (fun v11 => [(0, .cells [Iz v0, AV.lst false false (List.map api_Arc.av v1)])]) 1 k (2) hF (by simp [-List.reduceReplicate, sOf_set, ofI_set, allU8_set, F12]) (by simp [-List.reduceReplicate, sOf_set, ofI_set, allU8_set, F12]) (by simp) ?_
    rintro (_|n2) v11 hF K542 hK542
    ·try dsimp only at hF
     rw [ref15_Valid.L2] at hF; cases hF
    try dsimp only at hF
    rw [ref15_Valid.L2] at hF
    refine AW.seq fun K544 hK544 => ?_
    refine SQ [] [none, none, none, none] fun _ _ g r => ?_
    try simp [-List.reduceReplicate, sOf_set, ofI_set, allU8_set, F12]
    and_intros <;> first | exact g _ (by kernel_rfl) | refine r _ _ _ ?_ | omega | (simp [-List.reduceReplicate, sOf_set, ofI_set, allU8_set, maxLen, F12] <;> omega)
    refine WK [(2, AV.ptr 0 0), (5, AV.lst false true (List.map (AV.int .i64) v6)), (7, Iz v11), (79, AV.bool (decide (v11 < v0)))] [(0, .cells [Iz v0, AV.lst false false (List.map api_Arc.av v1)])] 1 (by simp [-List.reduceReplicate, sOf_set, ofI_set, allU8_set, F12]) (by simp [-List.reduceReplicate, sOf_set, ofI_set, allU8_set, F12]) ?_
    by_cases h28 : v11 < v0
    ·replace hF := ite_t h28 hF
     have h28_ := h28
     try simp [-List.reduceReplicate] at h28_
     have F13 := And.intro F12 (And.intro h28 h28_)
     refine CT (by simp [-List.reduceReplicate, sOf_set, ofI_set, allU8_set, F13] <;> omega) ?_
     refine AW.skip ?_
     refine hK544 _ _ _ ?_
     refine AW.seq fun K548 hK548 => ?_
     refine AW.block ?_
     refine SQ [] [none, none, none, none, none] fun _ _ g r => ?_
     obtain ⟨v12, h29, h30, h31, hF⟩ := idx_elim hF
     have h31_ := get_of h31
     try simp [-List.reduceReplicate] at h31_
     have h30_ := h30
     try simp [-List.reduceReplicate] at h30_
     have F14 := And.intro F13 (And.intro h29 (And.intro h30 (And.intro h31 (And.intro h31_ h30_))))
     try simp [-List.reduceReplicate, sOf_set, ofI_set, allU8_set, F14]
     and_intros <;> first | exact g _ (by kernel_rfl) | refine r _ _ _ ?_ | omega | (simp [-List.reduceReplicate, sOf_set, ofI_set, allU8_set, maxLen, F14] <;> omega)
     refine WK [(2, AV.ptr 0 0), (5, AV.lst false true (List.map (AV.int .i64) v6)), (7, Iz v11), (86, AV.bool (v12 != 0))] [(0, .cells [Iz v0, AV.lst false false (List.map api_Arc.av v1)])] 1 (by simp [-List.reduceReplicate, sOf_set, ofI_set, allU8_set, F14]) (by simp [-List.reduceReplicate, sOf_set, ofI_set, allU8_set, F14]) ?_
     by_cases h32 : v12 ≠ 0
     ·replace hF := ite_t h32 hF
      have h32_ := eqb_f h32
      have h32__ := neb_t h32
      have F15 := And.intro F14 (And.intro h32 (And.intro h32_ h32__))
      refine CT (by simp [-List.reduceReplicate, sOf_set, ofI_set, allU8_set, F15] <;> omega) ?_
      refine SQ [] [none] fun _ _ g r => ?_
      try simp [-List.reduceReplicate, sOf_set, ofI_set, allU8_set, F15]
      and_intros <;> first | exact g _ (by kernel_rfl) | refine r _ _ _ ?_ | omega | (simp [-List.reduceReplicate, sOf_set, ofI_set, allU8_set, maxLen, F15] <;> omega)
      refine WK [(4, AV.bool false)] [] 1 (by simp [-List.reduceReplicate, sOf_set, ofI_set, allU8_set, F15]) (by simp [-List.reduceReplicate, sOf_set, ofI_set, allU8_set, F15]) ?_
      simp only [Option.some.injEq] at hF
      subst hF
      refine AW.ret (hQ _ _ _ ?_ (matchO_0 ?_)).1
      ·simp [Try.f24, F15]
      ·simp [F15]
     ·replace hF := ite_f h32 hF
      have h32q : v12 = 0 := Classical.not_not.1 h32
      have h32_ := eqb_t h32q
      have h32__ := neb_f h32q
      have F16 := And.intro F14 (And.intro h32_ (And.intro h32__ h32q))
      refine CF (by simp [-List.reduceReplicate, sOf_set, ofI_set, allU8_set, F16] <;> omega) ?_
      refine AW.skip ?_
      refine hK548 _ _ _ ?_
      refine RG [] [none, none, none] fun _ _ g r => ?_
      try simp [-List.reduceReplicate, sOf_set, ofI_set, allU8_set, F16]
      and_intros <;> first | exact g _ (by kernel_rfl) | refine r _ _ _ ?_ | omega | (simp [-List.reduceReplicate, sOf_set, ofI_set, allU8_set, maxLen, F16] <;> omega)
      refine hK542 _ _ _ ?_
      exact NX (k' := n2) (IntKind.wrap .i64 (v11 + 1)) hF (by simp [-List.reduceReplicate, sOf_set, ofI_set, allU8_set, F16]) (by simp [-List.reduceReplicate, sOf_set, ofI_set, allU8_set, F16])
    ·replace hF := ite_f h28 hF
     have h28_ := h28
     try simp [-List.reduceReplicate] at h28_
     have F17 := And.intro F12 (And.intro h28 h28_)
     refine CF (by simp [-List.reduceReplicate, sOf_set, ofI_set, allU8_set, F17] <;> omega) ?_
     refine AW.exit ?_
     try simp [-List.reduceReplicate]
     refine hK513 _ _ _ ?_
     refine SQ [] [none] fun _ _ g r => ?_
     try simp [-List.reduceReplicate, sOf_set, ofI_set, allU8_set, F17]
     and_intros <;> first | exact g _ (by kernel_rfl) | refine r _ _ _ ?_ | omega | (simp [-List.reduceReplicate, sOf_set, ofI_set, allU8_set, maxLen, F17] <;> omega)
     refine WK [(4, AV.bool true)] [] 1 (by simp [-List.reduceReplicate, sOf_set, ofI_set, allU8_set, F17]) (by simp [-List.reduceReplicate, sOf_set, ofI_set, allU8_set, F17]) ?_
     simp only [Option.some.injEq] at hF
     subst hF
     refine AW.ret (hQ _ _ _ ?_ (matchO_0 ?_)).1
     ·simp [Try.f24, F17]
     ·simp [F17]
theorem w_ref15_Value (k : Nat) (v0 : Int) (v1 : (List api_Arc)) (v2 : (List Int)) (v3 : Int) (hF : ref15_Value k v0 v1 v2 = some v3) :
  FCall Try.prog 34 [AV.agg [AV.int .i64 v0, AV.lst false false (List.map api_Arc.av v1)], AV.lst false false (List.map (AV.int .i64) v2)] [] (AV.int .i64 v3) [] := by
 unfold ref15_Value at hF
 refine EN Try.func34 ?_
 intro c0 w0 Q h0 hQ
 refine WK [(0, AV.agg [Iz v0, AV.lst false false (List.map api_Arc.av v1)]), (1, Lz v2)] [] 0 (by simp) (by simp) ?_
 refine SQ [] [none, none] fun _ _ g r => ?_
 try simp
 and_intros <;> first | exact g _ (by kernel_rfl) | refine r _ _ _ ?_ | omega | (simp [maxLen] <;> omega)
 refine WK [(1, Lz v2), (2, AV.ptr 0 0)] [(0, .cells [Iz v0, AV.lst false false (List.map api_Arc.av v1)])] 1 (by simp) (by simp) ?_
 refine AW.seq fun K89 hK89 => ?_
 refine SQ [] [none, none, none, none] fun _ _ g r => ?_
 try simp
 and_intros
 try any_goals first | omega | (simp [maxLen] <;> omega)
 obtain ⟨v4, h1, hF⟩ := bnd1_elim hF
 refine AC (w_ref15_Valid k _ _ _ _ h1) (.cons (.same (by simp)) (.cons (.same (by simp)) .nil)) ?_
 try simp
 and_intros <;> first | exact g _ (by kernel_rfl) | refine r _ _ _ ?_ | omega | (simp [maxLen] <;> omega)
 refine WK [(1, Lz v2), (2, AV.ptr 0 0), (10, AV.bool (!v4))] [(0, .cells [Iz v0, AV.lst false false (List.map api_Arc.av v1)])] 1 (by simp) (by simp) ?_
 by_cases h2 : (!v4) = true
 ·replace hF := ite_t h2 hF
  have h2_ := h2
  try simp at h2_
  refine CT (by simp [h2, h2_] <;> omega) ?_
  refine SQ [] [none] fun _ _ g r => ?_
  try simp [h2, h2_]
  and_intros <;> first | exact g _ (by kernel_rfl) | refine r _ _ _ ?_ | omega | (simp [h2, h2_, maxLen] <;> omega)
  refine WK [(4, Iz 0)] [] 1 (by simp [h2, h2_]) (by simp [h2, h2_]) ?_
  simp only [Option.some.injEq] at hF
  subst hF
  refine AW.ret (hQ _ _ _ ?_ (matchO_0 ?_)).1
  ·simp [Try.f34, h2, h2_]
  ·simp [h2, h2_]
 ·replace hF := ite_f h2 hF
  have h2_ := h2
  try simp at h2_
  refine CF (by simp [h2, h2_] <;> omega) ?_
  refine AW.skip ?_
  refine hK89 _ _ _ ?_
  refine SQ [] [none] fun _ _ g r => ?_
  try simp [h2, h2_]
  and_intros <;> first | exact g _ (by kernel_rfl) | refine r _ _ _ ?_ | omega | (simp [h2, h2_, maxLen] <;> omega)
  refine WK [(1, Lz v2), (2, AV.ptr 0 0), (5, Iz 0)] [(0, .cells [Iz v0, AV.lst false false (List.map api_Arc.av v1)])] 1 (by simp [h2, h2_]) (by simp [h2, h2_]) ?_
  refine AW.seq fun K131 hK131 => ?_
  refine SQ [] [none] fun _ _ g r => ?_
  try simp [h2, h2_]
  and_intros <;> first | exact g _ (by kernel_rfl) | refine r _ _ _ ?_ | omega | (simp [h2, h2_, maxLen] <;> omega)
  refine WK [(1, Lz v2), (2, AV.ptr 0 0), (5, Iz 0), (6, Iz 0)] [(0, .cells [Iz v0, AV.lst false false (List.map api_Arc.av v1)])] 1 (by simp [h2, h2_]) (by simp [h2, h2_]) ?_
  refine AW.block ?_
  refine AW.loopF (α := (Int × Int)) (fun n (v5, v6) => ref15_Value.L1 k v1 v2 n v5 v6 = some v3) (fun (v5, v6) => [(1, Lz v2), (2, AV.ptr 0 0), (5, Iz v5), (6, Iz v6)]) (fun (v5, v6) => [(0, .cells [Iz v0, AV.lst false false (List.map api_Arc.av v1)])]) 1 k ((0, 0)) hF (by simp [h2, h2_]) (by simp [h2, h2_]) (by simp) ?_
  rintro (_|n1) ⟨v5, v6⟩ hF K160 hK160
  ·try dsimp only at hF
   rw [ref15_Value.L1] at hF; cases hF
  try dsimp only at hF
  rw [ref15_Value.L1] at hF
  refine AW.seq fun K162 hK162 => ?_
  refine SQ [] [none, none, none, none] fun _ _ g r => ?_
  try simp [h2, h2_]
  and_intros <;> first | exact g _ (by kernel_rfl) | refine r _ _ _ ?_ | omega | (simp [h2, h2_, maxLen] <;> omega)
  refine WK [(1, Lz v2), (2, AV.ptr 0 0), (5, Iz v5), (6, Iz v6), (14, AV.bool (decide (v6 < (v2.length : Int))))] [(0, .cells [Iz v0, AV.lst false false (List.map api_Arc.av v1)])] 1 (by simp [h2, h2_]) (by simp [h2, h2_]) ?_
  by_cases h3 : v6 < (v2.length : Int)
  ·replace hF := ite_t h3 hF
   have h3_ := h3
   try simp at h3_
   have F1 := And.intro h2 (And.intro h2_ (And.intro h3 h3_))
   refine CT (by simp [F1] <;> omega) ?_
   refine AW.skip ?_
   refine hK162 _ _ _ ?_
   refine AW.midF (α := Int) (fun v7 => ref15_Value.J2 k v6 (fun v5_ v6_ => ref15_Value.L1 k v1 v2 n1 v5_ v6_) v7 = some v3) (fun v7 => [(1, Lz v2), (2, AV.ptr 0 0), (5, Iz v7), (6, Iz v6)]) (fun v7 => [(0, .cells [Iz v0, AV.lst false false (List.map api_Arc.av v1)])]) 1 (fun K167 hK167 => ?_) ?_
   ·refine AW.block ?_
    refine SQ [] [none, none, none, none, none, none, none] fun _ _ g r => ?_
    obtain ⟨v8, h4, h5, h6, hF⟩ := idx_elim hF
    have h6_ := get_of h6
    try simp at h6_
    have h5_ := h5
    try simp at h5_
    have F2 := And.intro F1 (And.intro h4 (And.intro h5 (And.intro h6 (And.intro h6_ h5_))))
    try simp [F2]
    and_intros <;> first | exact g _ (by kernel_rfl) | refine r _ _ _ ?_ | omega | (simp [maxLen, F2] <;> omega)
    refine WK [(1, Lz v2), (2, AV.ptr 0 0), (5, Iz v5), (6, Iz v6), (23, AV.bool (v8.From == 0))] [(0, .cells [Iz v0, AV.lst false false (List.map api_Arc.av v1)])] 1 (by simp [F2]) (by simp [F2]) ?_
    by_cases h7 : v8.From = 0
    ·replace hF := ite_t h7 hF
     have h7q : v8.From = 0 := h7
     have h7_ := eqb_t h7q
     have h7__ := neb_f h7q
     refine CT (by simp [F2, h7_, h7__, h7q] <;> omega) ?_
     refine RG [] [none, none, none, none, none, none, none] fun _ _ g r => ?_
     obtain ⟨v9, h8, h9, h10, hF⟩ := idx_elim hF
     have h10_ := get_of h10
     try simp at h10_
     have h9_ := h9
     try simp at h9_
     have F3 := And.intro F2 (And.intro h7_ (And.intro h7__ (And.intro h7q (And.intro h8 (And.intro h9 (And.intro h10 (And.intro h10_ h9_)))))))
     try simp [F3]
     and_intros <;> first | exact g _ (by kernel_rfl) | refine r _ _ _ ?_ | omega | (simp [maxLen, F3] <;> omega)
     refine hK167 _ _ _ ?_
     exact JN (IntKind.wrap .i64 (v5 + v9)) hF (by simp [F3]) (by simp [F3])
    ·replace hF := ite_f h7 hF
     have h7_ := eqb_f h7
     have h7__ := neb_t h7
     have F4 := And.intro F2 (And.intro h7 (And.intro h7_ h7__))
     refine CF (by simp [F4] <;> omega) ?_
     refine AW.skip ?_
     refine hK167 _ _ _ ?_
     exact JN (v5) hF (by simp [F4]) (by simp [F4])
   ·rintro v7 hF
    try dsimp only at hF
    unfold ref15_Value.J2 at hF
    refine RG [] [none, none, none] fun _ _ g r => ?_
    try simp [F1]
    and_intros <;> first | exact g _ (by kernel_rfl) | refine r _ _ _ ?_ | omega | (simp [maxLen, F1] <;> omega)
    refine hK160 _ _ _ ?_
    exact NX (k' := n1) ((v7, IntKind.wrap .i64 (v6 + 1))) hF (by simp [F1]) (by simp [F1])
  ·replace hF := ite_f h3 hF
   have h3_ := h3
   try simp at h3_
   have F5 := And.intro h2 (And.intro h2_ (And.intro h3 h3_))
   refine CF (by simp [F5] <;> omega) ?_
   refine AW.exit ?_
   try simp
   refine hK131 _ _ _ ?_
   refine SQ [] [none, none] fun _ _ g r => ?_
   try simp [F5]
   and_intros <;> first | exact g _ (by kernel_rfl) | refine r _ _ _ ?_ | omega | (simp [maxLen, F5] <;> omega)
   refine WK [(4, Iz v5)] [] 1 (by simp [F5]) (by simp [F5]) ?_
   simp only [Option.some.injEq] at hF
   subst hF
   refine AW.ret (hQ _ _ _ ?_ (matchO_0 ?_)).1
   ·simp [Try.f34, F5]
   ·simp [F5]
theorem w_law16_CutNearest (k : Nat) (v0 : (List Int)) (v1 : Bool) (hF : law16_CutNearest k v0 = some v1) :
  FCall Try.prog 10 [AV.lst false false (List.map (AV.int .i64) v0)] [] (AV.bool v1) [] := by
 unfold law16_CutNearest at hF
 refine EN Try.func10 ?_
 intro c0 w0 Q h0 hQ
 refine WK [(0, Lz v0)] [] 0 (by simp) (by simp) ?_
 refine SQ [] [none] fun _ _ g r => ?_
 try simp
 and_intros <;> first | exact g _ (by kernel_rfl) | refine r _ _ _ ?_ | omega | (simp [maxLen] <;> omega)
 refine WK [(0, Lz v0)] [] 0 (by simp) (by simp) ?_
 refine AW.seq fun K2068 hK2068 => ?_
 refine SQ [] [none, none, none] fun _ _ g r => ?_
 try simp
 and_intros
 try any_goals first | omega | (simp [maxLen] <;> omega)
 obtain ⟨v2, h1, hF⟩ := bnd1_elim hF
 refine AC (w_made_Light k _ _ h1) (.cons (.same (by simp)) .nil) ?_
 try simp
 and_intros <;> first | exact g _ (by kernel_rfl) | refine r _ _ _ ?_ | omega | (simp [maxLen] <;> omega)
 refine WK [(0, Lz v0), (17, AV.bool (!v2))] [] 0 (by simp) (by simp) ?_
 by_cases h2 : (!v2) = true
 ·replace hF := ite_t h2 hF
  have h2_ := h2
  try simp at h2_
  refine CT (by simp [h2, h2_] <;> omega) ?_
  refine SQ [] [none, none] fun _ _ g r => ?_
  try simp [h2, h2_]
  and_intros
  try any_goals first | omega | (simp [h2, h2_, maxLen] <;> omega)
  obtain ⟨v3, h3, hF⟩ := bnd1_elim hF
  refine AC (w_law16_awake k _ h3) .nil ?_
  try simp [h2, h2_]
  and_intros <;> first | exact g _ (by kernel_rfl) | refine r _ _ _ ?_ | omega | (simp [h2, h2_, maxLen] <;> omega)
  refine WK [(2, AV.bool v3)] [] 0 (by simp [h2, h2_]) (by simp [h2, h2_]) ?_
  simp only [Option.some.injEq] at hF
  subst hF
  refine AW.ret (hQ _ _ _ ?_ (matchO_0 ?_)).1
  ·simp [Try.f10, h2, h2_]
  ·simp [h2, h2_]
 ·replace hF := ite_f h2 hF
  have h2_ := h2
  try simp at h2_
  refine CF (by simp [h2, h2_] <;> omega) ?_
  refine AW.skip ?_
  refine hK2068 _ _ _ ?_
  refine SQ [] [none, none, none] fun _ _ g r => ?_
  try simp [h2, h2_]
  and_intros
  try any_goals first | omega | (simp [h2, h2_, maxLen] <;> omega)
  obtain ⟨v4, v5, h4, hF⟩ := bnd2_elim hF
  refine AC (w_made_Roll k _ _ _ h4) (.cons (.same (by simp [h2, h2_])) .nil) ?_
  try simp [h2, h2_]
  and_intros <;> first | exact g _ (by kernel_rfl) | refine r _ _ _ ?_ | omega | (simp [h2, h2_, maxLen] <;> omega)
  refine WK [(3, AV.ptr 0 0)] [(0, .cells [Lz v4, Iz v5])] 1 (by simp [h2, h2_]) (by simp [h2, h2_]) ?_
  refine SQ [] [none, none, none, none] fun _ _ g r => ?_
  try simp [h2, h2_]
  and_intros
  try any_goals first | omega | (simp [h2, h2_, maxLen] <;> omega)
  obtain ⟨v6, v7, v8, h5, hF⟩ := bnd3_elim hF
  refine aCall_l (w_made_Dice_Network k _ _ _ _ _ h5) (by simp) [0] [] [0] rfl (.cons (.same (by simp [h2, h2_])) .nil) (by simp [h2, h2_]) (by decide) (by simp) (by simp) (.inl rfl) (by simp) (by simp) ?_
  try simp [h2, h2_]
  and_intros <;> first | exact g _ (by kernel_rfl) | refine r _ _ _ ?_ | omega | (simp [h2, h2_, maxLen] <;> omega)
  refine WK [(4, AV.ptr 2 0)] [(1, .grow (flatA (List.map api_Arc.av v7))), (2, .cells [Iz v6, AV.slc 1 0 3 v7.length false])] 3 (by simp [h2, h2_]) (by simp [h2, h2_]) ?_
  refine AW.frz 1 (o := .grow (flatA (List.map api_Arc.av v7))) (by simp [h2, h2_]) rfl [] [(2, .cells [Iz v6, AV.lst false false (List.map api_Arc.av v7)])] trivial ⟨⟨by simp, AObj.cells [Iz v6, AV.slc 1 0 3 v7.length false], by simp [h2, h2_], (.mk (.cons (.same _) (.cons (.l (by simp) (by simp) (by simp) (by simp)) .nil)))⟩, trivial⟩ ?_
  refine WK [(4, AV.ptr 2 0)] [(2, .cells [Iz v6, AV.lst false false (List.map api_Arc.av v7)])] 3 (by simp [h2, h2_]) (by simp [h2, h2_]) ?_
  refine SQ [] [none, none, none, none, none, none, none] fun _ _ g r => ?_
  try simp [h2, h2_]
  and_intros
  try any_goals first | omega | (simp [h2, h2_, maxLen] <;> omega)
  obtain ⟨v9, v10, h6, hF⟩ := bnd2_elim hF
  refine AC (w_cut_Nearest k _ _ _ _ h6) (.cons (.same (by simp [h2, h2_])) .nil) ?_
  try simp [h2, h2_]
  and_intros <;> first | exact g _ (by kernel_rfl) | refine r _ _ _ ?_ | omega | (simp [h2, h2_, maxLen] <;> omega)
  refine WK [(4, AV.ptr 2 0), (5, AV.slc 3 0 1 v9.length false), (6, Iz v10)] [(2, .cells [Iz v6, AV.lst false false (List.map api_Arc.av v7)]), (3, .grow (List.map (AV.int .i64) v9))] 4 (by simp [h2, h2_]) (by simp [h2, h2_]) ?_
  refine AW.frz 3 (o := .grow (List.map (AV.int .i64) v9)) (by simp [h2, h2_]) rfl [(5, Lz v9)] [] ⟨(.l (by simp) (by simp) (by simp) (by simp)), trivial⟩ trivial ?_
  refine WK [(4, AV.ptr 2 0), (5, Lz v9), (6, Iz v10)] [(2, .cells [Iz v6, AV.lst false false (List.map api_Arc.av v7)])] 4 (by simp [h2, h2_]) (by simp [h2, h2_]) ?_
  refine AW.seq fun K2077 hK2077 => ?_
  refine SQ [] [none, none, none, some (30, false), some (30, false), some (30, false), some (30, false), none] fun _ _ g r => ?_
  by_cases h7 : v10 ≠ 0
  ·replace hF := ite_t h7 hF
   have h7_ := eqb_f h7
   have h7__ := neb_t h7
   have F1 := And.intro h2 (And.intro h2_ (And.intro h7 (And.intro h7_ h7__)))
   try simp [F1]
   and_intros <;> first | exact g _ (by kernel_rfl) | refine r _ _ _ ?_ | omega | (simp [maxLen, F1] <;> omega)
   refine WK [(4, AV.ptr 2 0), (5, Lz v9), (35, AV.bool true)] [(2, .cells [Iz v6, AV.lst false false (List.map api_Arc.av v7)])] 4 (by simp [F1]) (by simp [F1]) ?_
   refine CT (by simp [F1]) ?_
   refine SQ [] [none] fun _ _ g r => ?_
   try simp [F1]
   and_intros <;> first | exact g _ (by kernel_rfl) | refine r _ _ _ ?_ | omega | (simp [maxLen, F1] <;> omega)
   refine WK [(2, AV.bool false)] [] 4 (by simp [F1]) (by simp [F1]) ?_
   simp only [Option.some.injEq] at hF
   subst hF
   refine AW.ret (hQ _ _ _ ?_ (matchO_0 ?_)).1
   ·simp [Try.f10, F1]
   ·simp [F1]
  ·replace hF := ite_f h7 hF
   have h7q : v10 = 0 := Classical.not_not.1 h7
   have h7_ := eqb_t h7q
   have h7__ := neb_f h7q
   have F2 := And.intro h2 (And.intro h2_ (And.intro h7_ (And.intro h7__ h7q)))
   try simp [F2]
   and_intros
   try any_goals first | omega | (simp [maxLen, F2] <;> omega)
   obtain ⟨v11, h8, hF⟩ := bnd1_elim hF
   refine AC (w_ref16_Valid k _ _ _ _ h8) (.cons (.same (by simp [F2])) (.cons (.same (by simp [F2])) .nil)) ?_
   try simp [F2]
   and_intros <;> first | exact g _ (by kernel_rfl) | refine r _ _ _ ?_ | omega | (simp [maxLen, F2] <;> omega)
   refine WK [(4, AV.ptr 2 0), (5, Lz v9), (35, AV.bool (!v11))] [(2, .cells [Iz v6, AV.lst false false (List.map api_Arc.av v7)])] 4 (by simp [F2]) (by simp [F2]) ?_
   by_cases h9 : (!v11) = true
   ·replace hF := ite_t h9 hF
    have h9_ := h9
    try simp at h9_
    have F3 := And.intro F2 (And.intro h9 h9_)
    refine CT (by simp [F3] <;> omega) ?_
    refine SQ [] [none] fun _ _ g r => ?_
    try simp [F3]
    and_intros <;> first | exact g _ (by kernel_rfl) | refine r _ _ _ ?_ | omega | (simp [maxLen, F3] <;> omega)
    refine WK [(2, AV.bool false)] [] 4 (by simp [F3]) (by simp [F3]) ?_
    simp only [Option.some.injEq] at hF
    subst hF
    refine AW.ret (hQ _ _ _ ?_ (matchO_0 ?_)).1
    ·simp [Try.f10, F3]
    ·simp [F3]
   ·replace hF := ite_f h9 hF
    have h9_ := h9
    try simp at h9_
    have F4 := And.intro F2 (And.intro h9 h9_)
    refine CF (by simp [F4] <;> omega) ?_
    refine AW.skip ?_
    refine hK2077 _ _ _ ?_
    refine SQ [] [none, none, none, none] fun _ _ g r => ?_
    try simp [F4]
    and_intros
    try any_goals first | omega | (simp [maxLen, F4] <;> omega)
    obtain ⟨v12, h10, hF⟩ := bnd1_elim hF
    refine AC (w_ref16_Capacity k _ _ _ _ h10) (.cons (.same (by simp [F4])) (.cons (.same (by simp [F4])) .nil)) ?_
    try simp [F4]
    and_intros <;> first | exact g _ (by kernel_rfl) | refine r _ _ _ ?_ | omega | (simp [maxLen, F4] <;> omega)
    refine WK [(4, AV.ptr 2 0), (5, Lz v9), (7, Iz v12)] [(2, .cells [Iz v6, AV.lst false false (List.map api_Arc.av v7)])] 4 (by simp [F4]) (by simp [F4]) ?_
    refine AW.seq fun K3104 hK3104 => ?_
    refine SQ [] [none] fun _ _ g r => ?_
    try simp [F4]
    and_intros <;> first | exact g _ (by kernel_rfl) | refine r _ _ _ ?_ | omega | (simp [maxLen, F4] <;> omega)
    refine WK [(4, AV.ptr 2 0), (5, Lz v9), (7, Iz v12), (8, Iz 0)] [(2, .cells [Iz v6, AV.lst false false (List.map api_Arc.av v7)])] 4 (by simp [F4]) (by simp [F4]) ?_
    refine AW.block ?_
    refine RM h0 [(0, 2)] [(4, AV.ptr 0 0), (5, Lz v9), (7, Iz v12), (8, Iz 0)] [(0, .cells [Iz v6, AV.lst false false (List.map api_Arc.av v7)])] 1 (by simp [F4]) (by simp [F4]) ?_
    refine AW.loopF (α := Int) (fun n v13 => law16_CutNearest.L1 k v6 v7 v9 v12 n v13 = some v1) (fun v13 => [(4, AV.ptr 0 0), (5, Lz v9), (7, Iz v12), (8, Iz v13)]) (fun v13 => [(0, .cells [Iz v6, AV.lst false false (List.map api_Arc.av v7)])]) 1 k (0) hF (by simp [F4]) (by simp [F4]) (by simp) ?_
    rintro (_|n1) v13 hF K3871 hK3871
    ·try dsimp only at hF
     rw [law16_CutNearest.L1] at hF; cases hF
    try dsimp only at hF
    rw [law16_CutNearest.L1] at hF
    refine AW.seq fun K3873 hK3873 => ?_
    refine SQ [] [none, none, none, none, none, none] fun _ _ g r => ?_
    obtain ⟨h11, hF⟩ := chk_elim hF
    try simp [F4, h11]
    and_intros <;> first | exact g _ (by kernel_rfl) | refine r _ _ _ ?_ | omega | (simp [maxLen, F4, h11] <;> omega)
    refine WK [(4, AV.ptr 0 0), (5, Lz v9), (7, Iz v12), (8, Iz v13), (44, AV.bool (decide (v13 < IntKind.wrap .i64 (1 * 2 ^ (min ((IntKind.wrap .u64 v6).toNat) 64)))))] [(0, .cells [Iz v6, AV.lst false false (List.map api_Arc.av v7)])] 1 (by simp [F4, h11]) (by simp [F4, h11]) ?_
    by_cases h12 : v13 < IntKind.wrap .i64 (1 * 2 ^ (min ((IntKind.wrap .u64 v6).toNat) 64))
    ·replace hF := ite_t h12 hF
     have h12_ := h12
     try simp at h12_
     have F5 := And.intro F4 (And.intro h11 (And.intro h12 h12_))
     refine CT (by simp [F5] <;> omega) ?_
     refine AW.skip ?_
     refine hK3873 _ _ _ ?_
     refine AW.midF (α := Unit) (fun _ => law16_CutNearest.J2 k v13 (fun v13_ => law16_CutNearest.L1 k v6 v7 v9 v12 n1 v13_) = some v1) (fun _ => [(4, AV.ptr 0 0), (5, Lz v9), (7, Iz v12), (8, Iz v13)]) (fun _ => [(0, .cells [Iz v6, AV.lst false false (List.map api_Arc.av v7)])]) 1 (fun K4001 hK4001 => ?_) ?_
     ·refine AW.block ?_
      refine AW.seq fun K4003 hK4003 => ?_
      refine SQ [] [none, none, none] fun _ _ g r => ?_
      try simp [F5]
      and_intros <;> first | exact g _ (by kernel_rfl) | refine r _ _ _ ?_ | omega | (simp [maxLen, F5] <;> omega)
      refine WK [(4, AV.ptr 0 0), (5, Lz v9), (7, Iz v12), (8, Iz v13), (49, AV.bool ((bitsV .and .i64 v13 3) != 1))] [(0, .cells [Iz v6, AV.lst false false (List.map api_Arc.av v7)])] 1 (by simp [F5]) (by simp [F5]) ?_
      by_cases h13 : (bitsV .and .i64 v13 3) ≠ 1
      ·replace hF := ite_t h13 hF
       have h13_ := eqb_f h13
       have h13__ := neb_t h13
       have F6 := And.intro F5 (And.intro h13 (And.intro h13_ h13__))
       refine CT (by simp [F6] <;> omega) ?_
       refine AW.exit ?_
       try simp
       refine hK4001 _ _ _ ?_
       exact JN (()) hF (by simp [F6]) (by simp [F6])
      ·replace hF := ite_f h13 hF
       have h13q : (bitsV .and .i64 v13 3) = 1 := Classical.not_not.1 h13
       have h13_ := eqb_t h13q
       have h13__ := neb_f h13q
       have F7 := And.intro F5 (And.intro h13_ (And.intro h13__ h13q))
       refine CF (by simp [F7] <;> omega) ?_
       refine AW.skip ?_
       refine hK4003 _ _ _ ?_
       refine SQ [] [none] fun _ _ g r => ?_
       try simp [F7]
       and_intros <;> first | exact g _ (by kernel_rfl) | refine r _ _ _ ?_ | omega | (simp [maxLen, F7] <;> omega)
       refine WK [(4, AV.ptr 0 0), (5, Lz v9), (7, Iz v12), (8, Iz v13), (9, AV.lst true true (List.map (AV.int .i64) ([] : List Int)))] [(0, .cells [Iz v6, AV.lst false false (List.map api_Arc.av v7)])] 1 (by simp [F7]) (by simp [F7]) ?_
       refine AW.seq fun K4044 hK4044 => ?_
       refine SQ [] [none] fun _ _ g r => ?_
       try simp [F7]
       and_intros <;> first | exact g _ (by kernel_rfl) | refine r _ _ _ ?_ | omega | (simp [maxLen, F7] <;> omega)
       refine WK [(4, AV.ptr 0 0), (5, Lz v9), (7, Iz v12), (8, Iz v13), (9, AV.lst true true (List.map (AV.int .i64) ([] : List Int))), (10, Iz 0)] [(0, .cells [Iz v6, AV.lst false false (List.map api_Arc.av v7)])] 1 (by simp [F7]) (by simp [F7]) ?_
       refine AW.block ?_
       refine AW.own' 9 1 true (by simp [F7]) (by decide) ?_
       refine AW.loopF (α := (Int × (List Int))) (fun n (v14, v15) => law16_CutNearest.L3 k v6 v7 v9 v12 v13 (fun v13_ => law16_CutNearest.L1 k v6 v7 v9 v12 n1 v13_) n v14 v15 = some v1) (fun (v14, v15) => [(4, AV.ptr 0 0), (5, Lz v9), (7, Iz v12), (8, Iz v13), (9, AV.slc 1 0 1 v15.length false), (10, Iz v14)]) (fun (v14, v15) => [(0, .cells [Iz v6, AV.lst false false (List.map api_Arc.av v7)]), (1, .grow (List.map (AV.int .i64) v15))]) 2 k ((0, ([] : List Int))) hF (by simp [F7]) (by simp [F7]) (by simp) ?_
       rintro (_|n3) ⟨v14, v15⟩ hF K4073 hK4073
       ·try dsimp only at hF
        rw [law16_CutNearest.L3] at hF; cases hF
       try dsimp only at hF
       rw [law16_CutNearest.L3] at hF
       refine AW.seq fun K4075 hK4075 => ?_
       refine SQ [] [none, none, none, none] fun _ _ g r => ?_
       try simp [F7]
       and_intros <;> first | exact g _ (by kernel_rfl) | refine r _ _ _ ?_ | omega | (simp [maxLen, F7] <;> omega)
       refine WK [(4, AV.ptr 0 0), (5, Lz v9), (7, Iz v12), (8, Iz v13), (9, AV.slc 1 0 1 v15.length false), (10, Iz v14), (53, AV.bool (decide (v14 < v6)))] [(0, .cells [Iz v6, AV.lst false false (List.map api_Arc.av v7)]), (1, .grow (List.map (AV.int .i64) v15))] 2 (by simp [F7]) (by simp [F7]) ?_
       by_cases h14 : v14 < v6
       ·replace hF := ite_t h14 hF
        have h14_ := h14
        try simp at h14_
        have F8 := And.intro F7 (And.intro h14 h14_)
        refine CT (by simp [F8] <;> omega) ?_
        refine AW.skip ?_
        refine hK4075 _ _ _ ?_
        refine AW.midF (α := (List Int)) (fun v16 => law16_CutNearest.J4 k v14 (fun v14_ v15_ => law16_CutNearest.L3 k v6 v7 v9 v12 v13 (fun v13_ => law16_CutNearest.L1 k v6 v7 v9 v12 n1 v13_) n3 v14_ v15_) v16 = some v1) (fun v16 => [(4, AV.ptr 0 0), (5, Lz v9), (7, Iz v12), (8, Iz v13), (9, AV.slc 1 0 1 v16.length false), (10, Iz v14)]) (fun v16 => [(0, .cells [Iz v6, AV.lst false false (List.map api_Arc.av v7)]), (1, .grow (List.map (AV.int .i64) v16))]) 2 (fun K4080 hK4080 => ?_) ?_
        ·refine AW.block ?_
         refine SQ [] [none, none, none, none, none, none] fun _ _ g r => ?_
         obtain ⟨h15, hF⟩ := chk_elim hF
         try simp [F8, h15]
         and_intros <;> first | exact g _ (by kernel_rfl) | refine r _ _ _ ?_ | omega | (simp [maxLen, F8, h15] <;> omega)
         refine WK [(4, AV.ptr 0 0), (5, Lz v9), (7, Iz v12), (8, Iz v13), (9, AV.slc 1 0 1 v15.length false), (10, Iz v14), (61, AV.bool ((bitsV .and .i64 (Int.fdiv v13 (2 ^ (min ((IntKind.wrap .u64 v14).toNat) 64))) 1) == 1))] [(0, .cells [Iz v6, AV.lst false false (List.map api_Arc.av v7)]), (1, .grow (List.map (AV.int .i64) v15))] 2 (by simp [F8, h15]) (by simp [F8, h15]) ?_
         by_cases h16 : (bitsV .and .i64 (Int.fdiv v13 (2 ^ (min ((IntKind.wrap .u64 v14).toNat) 64))) 1) = 1
         ·replace hF := ite_t h16 hF
          have h16q : (bitsV .and .i64 (Int.fdiv v13 (2 ^ (min ((IntKind.wrap .u64 v14).toNat) 64))) 1) = 1 := h16
          have h16_ := eqb_t h16q
          have h16__ := neb_f h16q
          refine CT (by simp [F8, h15, h16_, h16__, h16q] <;> omega) ?_
          refine RG [] [none, none, none, none, none] fun _ _ g r => ?_
          obtain ⟨h17, hF⟩ := chk_elim hF
          have h17_ := h17
          try simp at h17_
          have F9 := And.intro F8 (And.intro h15 (And.intro h16_ (And.intro h16__ (And.intro h16q h17))))
          try simp [F9]
          and_intros <;> first | exact g _ (by kernel_rfl) | refine r _ _ _ ?_ | omega | (simp [maxLen, F9] <;> omega)
          refine hK4080 _ _ _ ?_
          refine RN h0 [(0, 0), (1, 2)] [(4, AV.ptr 0 0), (5, Lz v9), (7, Iz v12), (8, Iz v13), (9, AV.slc 1 0 1 ((v15 ++ ([v14] : List Int)).length) false), (10, Iz v14)] [(0, .cells [Iz v6, AV.lst false false (List.map api_Arc.av v7)]), (1, .grow (List.map (AV.int .i64) (v15 ++ ([v14] : List Int))))] 2 (by simp [F9] <;> omega) (by simp [F9]) ?_
          exact JN (v15 ++ ([v14] : List Int)) hF (by simp [F9]) (by simp [F9])
         ·replace hF := ite_f h16 hF
          have h16_ := eqb_f h16
          have h16__ := neb_t h16
          have F10 := And.intro F8 (And.intro h15 (And.intro h16 (And.intro h16_ h16__)))
          refine CF (by simp [F10] <;> omega) ?_
          refine AW.skip ?_
          refine hK4080 _ _ _ ?_
          exact JN (v15) hF (by simp [F10]) (by simp [F10])
        ·rintro v16 hF
         try dsimp only at hF
         unfold law16_CutNearest.J4 at hF
         refine RG [] [none, none, none] fun _ _ g r => ?_
         try simp [F8]
         and_intros <;> first | exact g _ (by kernel_rfl) | refine r _ _ _ ?_ | omega | (simp [maxLen, F8] <;> omega)
         refine hK4073 _ _ _ ?_
         exact NX (k' := n3) ((IntKind.wrap .i64 (v14 + 1), v16)) hF (by simp [F8]) (by simp [F8])
       ·replace hF := ite_f h14 hF
        have h14_ := h14
        try simp at h14_
        have F11 := And.intro F7 (And.intro h14 h14_)
        refine CF (by simp [F11] <;> omega) ?_
        refine AW.exit ?_
        try simp
        refine hK4044 _ _ _ ?_
        refine WK [(4, AV.ptr 0 0), (5, Lz v9), (7, Iz v12), (8, Iz v13), (9, AV.slc 1 0 1 v15.length false)] [(0, .cells [Iz v6, AV.lst false false (List.map api_Arc.av v7)]), (1, .grow (List.map (AV.int .i64) v15))] 2 (by simp [F11]) (by simp [F11]) ?_
        refine AW.frz 1 (o := .grow (List.map (AV.int .i64) v15)) (by simp [F11]) rfl [(9, Lz v15)] [] ⟨(.l (by simp) (by simp) (by simp) (by simp)), trivial⟩ trivial ?_
        refine WK [(4, AV.ptr 0 0), (5, Lz v9), (7, Iz v12), (8, Iz v13), (9, Lz v15)] [(0, .cells [Iz v6, AV.lst false false (List.map api_Arc.av v7)])] 2 (by simp [F11]) (by simp [F11]) ?_
        refine SQ [] [none, none, none, none] fun _ _ g r => ?_
        try simp [F11]
        and_intros
        try any_goals first | omega | (simp [maxLen, F11] <;> omega)
        obtain ⟨v17, h18, hF⟩ := bnd1_elim hF
        refine AC (w_ref16_Capacity k _ _ _ _ h18) (.cons (.same (by simp [F11])) (.cons (.same (by simp [F11])) .nil)) ?_
        try simp [F11]
        and_intros <;> first | exact g _ (by kernel_rfl) | refine r _ _ _ ?_ | omega | (simp [maxLen, F11] <;> omega)
        refine WK [(4, AV.ptr 0 0), (5, Lz v9), (7, Iz v12), (8, Iz v13), (9, Lz v15), (11, Iz v17)] [(0, .cells [Iz v6, AV.lst false false (List.map api_Arc.av v7)])] 2 (by simp [F11]) (by simp [F11]) ?_
        refine AW.seq fun K4086 hK4086 => ?_
        refine SQ [] [none, none, none] fun _ _ g r => ?_
        try simp [F11]
        and_intros <;> first | exact g _ (by kernel_rfl) | refine r _ _ _ ?_ | omega | (simp [maxLen, F11] <;> omega)
        refine WK [(4, AV.ptr 0 0), (5, Lz v9), (7, Iz v12), (8, Iz v13), (9, Lz v15), (11, Iz v17), (71, AV.bool (decide (v17 < v12)))] [(0, .cells [Iz v6, AV.lst false false (List.map api_Arc.av v7)])] 2 (by simp [F11]) (by simp [F11]) ?_
        by_cases h19 : v17 < v12
        ·replace hF := ite_t h19 hF
         have h19_ := h19
         try simp at h19_
         have F12 := And.intro F11 (And.intro h19 h19_)
         refine CT (by simp [F12] <;> omega) ?_
         refine SQ [] [none] fun _ _ g r => ?_
         try simp [F12]
         and_intros <;> first | exact g _ (by kernel_rfl) | refine r _ _ _ ?_ | omega | (simp [maxLen, F12] <;> omega)
         refine WK [(2, AV.bool false)] [] 2 (by simp [F12]) (by simp [F12]) ?_
         simp only [Option.some.injEq] at hF
         subst hF
         refine AW.ret (hQ _ _ _ ?_ (matchO_0 ?_)).1
         ·simp [Try.f10, F12]
         ·simp [F12]
        ·replace hF := ite_f h19 hF
         have h19_ := h19
         try simp at h19_
         have F13 := And.intro F11 (And.intro h19 h19_)
         refine CF (by simp [F13] <;> omega) ?_
         refine AW.skip ?_
         refine hK4086 _ _ _ ?_
         refine SQ [] [none] fun _ _ g r => ?_
         try simp [F13]
         and_intros <;> first | exact g _ (by kernel_rfl) | refine r _ _ _ ?_ | omega | (simp [maxLen, F13] <;> omega)
         refine WK [(4, AV.ptr 0 0), (5, Lz v9), (7, Iz v12), (8, Iz v13), (9, Lz v15), (11, Iz v17), (12, Iz 0)] [(0, .cells [Iz v6, AV.lst false false (List.map api_Arc.av v7)])] 2 (by simp [F13]) (by simp [F13]) ?_
         refine AW.block ?_
         refine RM h0 [(0, 0)] [(4, AV.ptr 0 0), (5, Lz v9), (7, Iz v12), (8, Iz v13), (9, Lz v15), (11, Iz v17), (12, Iz 0)] [(0, .cells [Iz v6, AV.lst false false (List.map api_Arc.av v7)])] 1 (by simp [F13]) (by simp [F13]) ?_
         refine AW.loopF (α := Int) (fun n v18 => law16_CutNearest.L5 k v9 v12 v13 v15 v17 (fun v13_ => law16_CutNearest.L1 k v6 v7 v9 v12 n1 v13_) n v18 = some v1) (fun v18 => [(4, AV.ptr 0 0), (5, Lz v9), (7, Iz v12), (8, Iz v13), (9, Lz v15), (11, Iz v17), (12, Iz v18)]) (fun v18 => [(0, .cells [Iz v6, AV.lst false false (List.map api_Arc.av v7)])]) 1 k (0) hF (by simp [F13]) (by simp [F13]) (by simp) ?_
         rintro (_|n5) v18 hF K4117 hK4117
         ·try dsimp only at hF
          rw [law16_CutNearest.L5] at hF; cases hF
         try dsimp only at hF
         rw [law16_CutNearest.L5] at hF
         refine AW.seq fun K4119 hK4119 => ?_
         refine SQ [] [none, none, none, none, none, some (76, true), some (76, true), some (76, true), none] fun _ _ g r => ?_
         by_cases h20 : v18 < (v9.length : Int)
         ·replace hF := ite_t h20 hF
          have h20_ := h20
          try simp at h20_
          have F14 := And.intro F13 (And.intro h20 h20_)
          try simp [F14]
          and_intros <;> first | exact g _ (by kernel_rfl) | refine r _ _ _ ?_ | omega | (simp [maxLen, F14] <;> omega)
          refine WK [(4, AV.ptr 0 0), (5, Lz v9), (7, Iz v12), (8, Iz v13), (9, Lz v15), (11, Iz v17), (12, Iz v18), (80, AV.bool (v17 == v12))] [(0, .cells [Iz v6, AV.lst false false (List.map api_Arc.av v7)])] 1 (by simp [F14]) (by simp [F14]) ?_
          by_cases h21 : v17 = v12
          ·replace hF := ite_t h21 hF
           have h21q : v17 = v12 := h21
           have h21_ := eqb_t h21q
           have h21__ := neb_f h21q
           refine CT (by simp [F14, h21_, h21__] <;> omega) ?_
           refine AW.skip ?_
           refine hK4119 _ _ _ ?_
           refine AW.seq fun K4123 hK4123 => ?_
           refine AW.block ?_
           refine SQ [] [none, none, none, none, none, none, none] fun _ _ g r => ?_
           obtain ⟨v19, h22, h23, h24, hF⟩ := idx_elim hF
           have h24_ := get_of h24
           try simp at h24_
           have h23_ := h23
           try simp at h23_
           have F15 := And.intro F14 (And.intro h21_ (And.intro h21__ (And.intro h22 (And.intro h23 (And.intro h24 (And.intro h24_ h23_))))))
           try simp [F15]
           and_intros
           try any_goals first | omega | (simp [maxLen, F15] <;> omega)
           obtain ⟨v20, h25, hF⟩ := bnd1_elim hF
           refine AC (w_ref11_Has k _ _ _ h25) (.cons (.same (by simp [F15])) (.cons (.same (by simp [F15])) .nil)) ?_
           try simp [F15]
           and_intros <;> first | exact g _ (by kernel_rfl) | refine r _ _ _ ?_ | omega | (simp [maxLen, F15] <;> omega)
           refine WK [(4, AV.ptr 0 0), (5, Lz v9), (7, Iz v12), (8, Iz v13), (9, Lz v15), (11, Iz v17), (12, Iz v18), (89, AV.bool (!v20))] [(0, .cells [Iz v6, AV.lst false false (List.map api_Arc.av v7)])] 1 (by simp [F15]) (by simp [F15]) ?_
           by_cases h26 : (!v20) = true
           ·replace hF := ite_t h26 hF
            have h26_ := h26
            try simp at h26_
            have F16 := And.intro F15 (And.intro h26 h26_)
            refine CT (by simp [F16] <;> omega) ?_
            refine SQ [] [none] fun _ _ g r => ?_
            try simp [F16]
            and_intros <;> first | exact g _ (by kernel_rfl) | refine r _ _ _ ?_ | omega | (simp [maxLen, F16] <;> omega)
            refine WK [(2, AV.bool false)] [] 1 (by simp [F16]) (by simp [F16]) ?_
            simp only [Option.some.injEq] at hF
            subst hF
            refine AW.ret (hQ _ _ _ ?_ (matchO_0 ?_)).1
            ·simp [Try.f10, F16]
            ·simp [F16]
           ·replace hF := ite_f h26 hF
            have h26_ := h26
            try simp at h26_
            have F17 := And.intro F15 (And.intro h26 h26_)
            refine CF (by simp [F17] <;> omega) ?_
            refine AW.skip ?_
            refine hK4123 _ _ _ ?_
            refine RG [] [none, none, none] fun _ _ g r => ?_
            try simp [F17]
            and_intros <;> first | exact g _ (by kernel_rfl) | refine r _ _ _ ?_ | omega | (simp [maxLen, F17] <;> omega)
            refine hK4117 _ _ _ ?_
            exact NX (k' := n5) (IntKind.wrap .i64 (v18 + 1)) hF (by simp [F17]) (by simp [F17])
          ·replace hF := ite_f h21 hF
           have h21_ := eqb_f h21
           have h21__ := neb_t h21
           have F18 := And.intro F14 (And.intro h21 (And.intro h21_ h21__))
           refine CF (by simp [F18] <;> omega) ?_
           refine AW.exit ?_
           try simp
           refine hK4001 _ _ _ ?_
           exact JN (()) hF (by simp [F18]) (by simp [F18])
         ·replace hF := ite_f h20 hF
          have h20_ := h20
          try simp at h20_
          have F19 := And.intro F13 (And.intro h20 h20_)
          try simp [F19]
          and_intros <;> first | exact g _ (by kernel_rfl) | refine r _ _ _ ?_ | omega | (simp [maxLen, F19] <;> omega)
          refine WK [(4, AV.ptr 0 0), (5, Lz v9), (7, Iz v12), (8, Iz v13), (9, Lz v15), (11, Iz v17), (12, Iz v18), (80, AV.bool false)] [(0, .cells [Iz v6, AV.lst false false (List.map api_Arc.av v7)])] 1 (by simp [F19]) (by simp [F19]) ?_
          refine CF (by simp [F19]) ?_
          refine AW.exit ?_
          try simp
          refine hK4001 _ _ _ ?_
          exact JN (()) hF (by simp [F19]) (by simp [F19])
     ·rintro ⟨⟩ hF
      try dsimp only at hF
      unfold law16_CutNearest.J2 at hF
      refine RG [] [none, none, none] fun _ _ g r => ?_
      try simp [F5]
      and_intros <;> first | exact g _ (by kernel_rfl) | refine r _ _ _ ?_ | omega | (simp [maxLen, F5] <;> omega)
      refine hK3871 _ _ _ ?_
      exact NX (k' := n1) (IntKind.wrap .i64 (v13 + 1)) hF (by simp [F5]) (by simp [F5])
    ·replace hF := ite_f h12 hF
     have h12_ := h12
     try simp at h12_
     have F20 := And.intro F4 (And.intro h11 (And.intro h12 h12_))
     refine CF (by simp [F20] <;> omega) ?_
     refine AW.exit ?_
     try simp
     refine hK3104 _ _ _ ?_
     refine SQ [] [none, none, none, none, none, none, none] fun _ _ g r => ?_
     try simp [F20]
     and_intros
     try any_goals first | omega | (simp [maxLen, F20] <;> omega)
     obtain ⟨v21, v22, h27, hF⟩ := bnd2_elim hF
     refine AC (w_ref15_Max k _ _ _ _ h27) (.cons (.same (by simp [F20])) .nil) ?_
     try simp [F20]
     and_intros <;> first | exact g _ (by kernel_rfl) | refine r _ _ _ ?_ | omega | (simp [maxLen, F20] <;> omega)
     refine WK [(4, AV.ptr 0 0), (5, Lz v9), (7, Iz v12), (13, Lz v21)] [(0, .cells [Iz v6, AV.lst false false (List.map api_Arc.av v7)])] 1 (by simp [F20]) (by simp [F20]) ?_
     refine SQ [] [none, none, some (96, true), some (96, true), some (96, true), some (96, true), some (96, true), none, none, some (103, true), some (103, true), some (103, true), some (103, true), none, none, some (109, true), some (109, true), some (109, true), some (109, true), some (109, true), some (109, true), none, none] fun _ _ g r => ?_
     try simp [F20]
     and_intros
     try any_goals first | omega | (simp [maxLen, F20] <;> omega)
     obtain ⟨v23, h28, hF⟩ := bnd1_elim hF
     refine AC (w_law16_awake k _ h28) .nil ?_
     by_cases h29 : v23 = true
     ·replace hF := ite_t h29 hF
      have h29_ := h29
      try simp at h29_
      have F21 := And.intro F20 (And.intro h29 h29_)
      try simp [F21]
      and_intros
      try any_goals first | omega | (simp [maxLen, F21] <;> omega)
      obtain ⟨v24, h30, hF⟩ := bnd1_elim hF
      refine AC (w_ref15_Value k _ _ _ _ h30) (.cons (.same (by simp [F21])) (.cons (.same (by simp [F21])) .nil)) ?_
      by_cases h31 : v24 = v12
      ·replace hF := ite_t h31 hF
       have h31q : v24 = v12 := h31
       have h31_ := eqb_t h31q
       have h31__ := neb_f h31q
       have F22 := And.intro F21 (And.intro h31_ h31__)
       try simp [F22]
       and_intros
       try any_goals first | omega | (simp [maxLen, F22] <;> omega)
       obtain ⟨v25, h32, hF⟩ := bnd1_elim hF
       refine AC (w_cut_Proves k _ _ _ _ _ h32) (.cons (.same (by simp [F22])) (.cons (.same (by simp [F22])) (.cons (.same (by simp [F22])) .nil))) ?_
       by_cases h33 : v25 = true
       ·replace hF := ite_t h33 hF
        have h33_ := h33
        try simp at h33_
        have F23 := And.intro F22 (And.intro h33 h33_)
        try simp [F23]
        and_intros
        try any_goals first | omega | (simp [maxLen, F23] <;> omega)
        obtain ⟨v26, h34, hF⟩ := bnd1_elim hF
        refine AC (w_cut_Proves k _ _ _ _ _ h34) (.cons (.same (by simp [F23])) (.cons (.same (by simp [F23])) (.cons (.same (by simp [F23])) .nil))) ?_
        try simp [F23]
        and_intros <;> first | exact g _ (by kernel_rfl) | refine r _ _ _ ?_ | omega | (simp [maxLen, F23] <;> omega)
        refine WK [(2, AV.bool (!v26))] [] 1 (by simp [F23]) (by simp [F23]) ?_
        simp only [Option.some.injEq] at hF
        subst hF
        refine AW.ret (hQ _ _ _ ?_ (matchO_0 ?_)).1
        ·simp [Try.f10, F23]
        ·simp [F23]
       ·replace hF := ite_f h33 hF
        have h33_ := h33
        try simp at h33_
        have F24 := And.intro F22 (And.intro h33 h33_)
        try simp [F24]
        and_intros <;> first | exact g _ (by kernel_rfl) | refine r _ _ _ ?_ | omega | (simp [maxLen, F24] <;> omega)
        refine WK [(2, AV.bool false)] [] 1 (by simp [F24]) (by simp [F24]) ?_
        simp only [Option.some.injEq] at hF
        subst hF
        refine AW.ret (hQ _ _ _ ?_ (matchO_0 ?_)).1
        ·simp [Try.f10, F24]
        ·simp [F24]
      ·replace hF := ite_f h31 hF
       have h31_ := eqb_f h31
       have h31__ := neb_t h31
       have F25 := And.intro F21 (And.intro h31 (And.intro h31_ h31__))
       try simp [F25]
       and_intros <;> first | exact g _ (by kernel_rfl) | refine r _ _ _ ?_ | omega | (simp [maxLen, F25] <;> omega)
       refine WK [(2, AV.bool false)] [] 1 (by simp [F25]) (by simp [F25]) ?_
       simp only [Option.some.injEq] at hF
       subst hF
       refine AW.ret (hQ _ _ _ ?_ (matchO_0 ?_)).1
       ·simp [Try.f10, F25]
       ·simp [F25]
     ·replace hF := ite_f h29 hF
      have h29_ := h29
      try simp at h29_
      have F26 := And.intro F20 (And.intro h29 h29_)
      try simp [F26]
      and_intros <;> first | exact g _ (by kernel_rfl) | refine r _ _ _ ?_ | omega | (simp [maxLen, F26] <;> omega)
      refine WK [(2, AV.bool false)] [] 1 (by simp [F26]) (by simp [F26]) ?_
      simp only [Option.some.injEq] at hF
      subst hF
      refine AW.ret (hQ _ _ _ ?_ (matchO_0 ?_)).1
      ·simp [Try.f10, F26]
      ·simp [F26]
end Go.TF
