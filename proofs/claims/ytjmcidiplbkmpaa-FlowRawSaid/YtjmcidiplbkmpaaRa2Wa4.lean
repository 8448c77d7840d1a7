/- Walks: the Go text computes the Lean functions (printed by a program of our own). -/
import Derived.Test.YtjmcidiplbkmpaaRa2Pu
import Derived.Test.YtjmcidiplbkmpaaRa2AbsT
import Derived.Test.YtjmcidiplbkmpaaRa2Wa0
import Derived.Test.YtjmcidiplbkmpaaRa2Wa1
import Derived.Test.YtjmcidiplbkmpaaRa2Wa2
import Derived.Test.YtjmcidiplbkmpaaRa2Wa3
set_option linter.unusedVariables false
set_option linter.unusedSimpArgs false
set_option maxRecDepth 100000
set_option maxHeartbeats 4000000
namespace Go.TF
open Go Go.Abs Go.Proofs Go.Proofs.YtjmcidiplbkmpaaRa2T
theorem w_ref15_Value (k : Nat) (v0 : Int) (v1 : (List api_Arc)) (v2 : (List Int)) (v3 : Int) (hF : ref15_Value k v0 v1 v2 = some v3) :
  FCall Try.prog 34 [AV.agg [AV.int .i64 v0, AV.lst false false (List.map api_Arc.av v1)], AV.lst false false (List.map (AV.int .i64) v2)] [] (AV.int .i64 v3) [] := by
 unfold ref15_Value at hF
 refine EN Try.func34 ?_
 intro c0 w0 Q h0 hQ
 refine WK [(0, AV.agg [Iz v0, AV.lst false false (List.map api_Arc.av v1)]), (1, Lz v2)] [] 0 (by simp) (by simp) ?_
 refine SQ [] [none, none] fun _ _ g r => ?_
 try simp
 and_intros <;> first | exact g _ (by kernel_rfl) | refine r _ _ _ ?_ | omega | (simp [maxLen] <;> omega)
 refine WK [(1, Lz v2), (2, AV.ptr 0 0)] [(0, .cells [Iz v0, AV.lst false false (List.map api_Arc.av v1)])] 1 (by simp) (by simp) ?_
 refine AW.seq fun K89 hK89 => ?_
 refine SQ [] [none, none, none, none] fun _ _ g r => ?_
 try simp
 and_intros
 try any_goals first | omega | (simp [maxLen] <;> omega)
 obtain ⟨v4, h1, hF⟩ := bnd1_elim hF
 refine AC (w_ref15_Valid k _ _ _ _ h1) (.cons (.same (by simp)) (.cons (.same (by simp)) .nil)) ?_
 try simp
 and_intros <;> first | exact g _ (by kernel_rfl) | refine r _ _ _ ?_ | omega | (simp [maxLen] <;> omega)
 refine WK [(1, Lz v2), (2, AV.ptr 0 0), (10, AV.bool (!v4))] [(0, .cells [Iz v0, AV.lst false false (List.map api_Arc.av v1)])] 1 (by simp) (by simp) ?_
 by_cases h2 : (!v4) = true
 ·replace hF := ite_t h2 hF
  have h2_ := h2
  try simp at h2_
  refine CT (by simp [h2, h2_] <;> omega) ?_
  refine SQ [] [none] fun _ _ g r => ?_
  try simp [h2, h2_]
  and_intros <;> first | exact g _ (by kernel_rfl) | refine r _ _ _ ?_ | omega | (simp [h2, h2_, maxLen] <;> omega)
  refine WK [(4, Iz 0)] [] 1 (by simp [h2, h2_]) (by simp [h2, h2_]) ?_
  simp only [Option.some.injEq] at hF
  subst hF
  refine AW.ret (hQ _ _ _ ?_ (matchO_0 ?_)).1
  ·simp [Try.f34, h2, h2_]
  ·simp [h2, h2_]
 ·replace hF := ite_f h2 hF
  have h2_ := h2
  try simp at h2_
  refine CF (by simp [h2, h2_] <;> omega) ?_
  refine AW.skip ?_
  refine hK89 _ _ _ ?_
  refine SQ [] [none] fun _ _ g r => ?_
  try simp [h2, h2_]
  and_intros <;> first | exact g _ (by kernel_rfl) | refine r _ _ _ ?_ | omega | (simp [h2, h2_, maxLen] <;> omega)
  refine WK [(1, Lz v2), (2, AV.ptr 0 0), (5, Iz 0)] [(0, .cells [Iz v0, AV.lst false false (List.map api_Arc.av v1)])] 1 (by simp [h2, h2_]) (by simp [h2, h2_]) ?_
  refine AW.seq fun K131 hK131 => ?_
  refine SQ [] [none] fun _ _ g r => ?_
  try simp [h2, h2_]
  and_intros <;> first | exact g _ (by kernel_rfl) | refine r _ _ _ ?_ | omega | (simp [h2, h2_, maxLen] <;> omega)
  refine WK [(1, Lz v2), (2, AV.ptr 0 0), (5, Iz 0), (6, Iz 0)] [(0, .cells [Iz v0, AV.lst false false (List.map api_Arc.av v1)])] 1 (by simp [h2, h2_]) (by simp [h2, h2_]) ?_
  refine AW.block ?_
  refine AW.loopF (α := (Int × Int)) (fun n (v5, v6) => ref15_Value.L1 k v1 v2 n v5 v6 = some v3) (fun (v5, v6) => [(1, Lz v2), (2, AV.ptr 0 0), (5, Iz v5), (6, Iz v6)]) (fun (v5, v6) => [(0, .cells [Iz v0, AV.lst false false (List.map api_Arc.av v1)])]) 1 k ((0, 0)) hF (by simp [h2, h2_]) (by simp [h2, h2_]) (by simp) ?_
  rintro (_|n1) ⟨v5, v6⟩ hF K160 hK160
  ·try dsimp only at hF
   rw [ref15_Value.L1] at hF; cases hF
  try dsimp only at hF
  rw [ref15_Value.L1] at hF
  refine AW.seq fun K162 hK162 => ?_
  refine SQ [] [none, none, none, none] fun _ _ g r => ?_
  try simp [h2, h2_]
  and_intros <;> first | exact g _ (by kernel_rfl) | refine r _ _ _ ?_ | omega | (simp [h2, h2_, maxLen] <;> omega)
  refine WK [(1, Lz v2), (2, AV.ptr 0 0), (5, Iz v5), (6, Iz v6), (14, AV.bool (decide (v6 < (v2.length : Int))))] [(0, .cells [Iz v0, AV.lst false false (List.map api_Arc.av v1)])] 1 (by simp [h2, h2_]) (by simp [h2, h2_]) ?_
  by_cases h3 : v6 < (v2.length : Int)
  ·replace hF := ite_t h3 hF
   have h3_ := h3
   try simp at h3_
   have F1 := And.intro h2 (And.intro h2_ (And.intro h3 h3_))
   refine CT (by simp [F1] <;> omega) ?_
   refine AW.skip ?_
   refine hK162 _ _ _ ?_
   refine AW.midF (α := Int) (fun v7 => ref15_Value.J2 k v6 (fun v5_ v6_ => ref15_Value.L1 k v1 v2 n1 v5_ v6_) v7 = some v3) (fun v7 => [(1, Lz v2), (2, AV.ptr 0 0), (5, Iz v7), (6, Iz v6)]) (fun v7 => [(0, .cells [Iz v0, AV.lst false false (List.map api_Arc.av v1)])]) 1 (fun K167 hK167 => ?_) ?_
   ·refine AW.block ?_
    refine SQ [] [none, none, none, none, none, none, none] fun _ _ g r => ?_
    obtain ⟨v8, h4, h5, h6, hF⟩ := idx_elim hF
    have h6_ := get_of h6
    try simp at h6_
    have h5_ := h5
    try simp at h5_
    have F2 := And.intro F1 (And.intro h4 (And.intro h5 (And.intro h6 (And.intro h6_ h5_))))
    try simp [F2]
    and_intros <;> first | exact g _ (by kernel_rfl) | refine r _ _ _ ?_ | omega | (simp [maxLen, F2] <;> omega)
    refine WK [(1, Lz v2), (2, AV.ptr 0 0), (5, Iz v5), (6, Iz v6), (23, AV.bool (v8.From == 0))] [(0, .cells [Iz v0, AV.lst false false (List.map api_Arc.av v1)])] 1 (by simp [F2]) (by simp [F2]) ?_
    by_cases h7 : v8.From = 0
    ·replace hF := ite_t h7 hF
     have h7q : v8.From = 0 := h7
     have h7_ := eqb_t h7q
     have h7__ := neb_f h7q
     refine CT (by simp [F2, h7_, h7__, h7q] <;> omega) ?_
     refine RG [] [none, none, none, none, none, none, none] fun _ _ g r => ?_
     obtain ⟨v9, h8, h9, h10, hF⟩ := idx_elim hF
     have h10_ := get_of h10
     try simp at h10_
     have h9_ := h9
     try simp at h9_
     have F3 := And.intro F2 (And.intro h7_ (And.intro h7__ (And.intro h7q (And.intro h8 (And.intro h9 (And.intro h10 (And.intro h10_ h9_)))))))
     try simp [F3]
     and_intros <;> first | exact g _ (by kernel_rfl) | refine r _ _ _ ?_ | omega | (simp [maxLen, F3] <;> omega)
     refine hK167 _ _ _ ?_
     exact JN (IntKind.wrap .i64 (v5 + v9)) hF (by simp [F3]) (by simp [F3])
    ·replace hF := ite_f h7 hF
     have h7_ := eqb_f h7
     have h7__ := neb_t h7
     have F4 := And.intro F2 (And.intro h7 (And.intro h7_ h7__))
     refine CF (by simp [F4] <;> omega) ?_
     refine AW.skip ?_
     refine hK167 _ _ _ ?_
     exact JN (v5) hF (by simp [F4]) (by simp [F4])
   ·rintro v7 hF
    try dsimp only at hF
    unfold ref15_Value.J2 at hF
    refine RG [] [none, none, none] fun _ _ g r => ?_
    try simp [F1]
    and_intros <;> first | exact g _ (by kernel_rfl) | refine r _ _ _ ?_ | omega | (simp [maxLen, F1] <;> omega)
    refine hK160 _ _ _ ?_
    exact NX (k' := n1) ((v7, IntKind.wrap .i64 (v6 + 1))) hF (by simp [F1]) (by simp [F1])
  ·replace hF := ite_f h3 hF
   have h3_ := h3
   try simp at h3_
   have F5 := And.intro h2 (And.intro h2_ (And.intro h3 h3_))
   refine CF (by simp [F5] <;> omega) ?_
   refine AW.exit ?_
   try simp
   refine hK131 _ _ _ ?_
   refine SQ [] [none, none] fun _ _ g r => ?_
   try simp [F5]
   and_intros <;> first | exact g _ (by kernel_rfl) | refine r _ _ _ ?_ | omega | (simp [maxLen, F5] <;> omega)
   refine WK [(4, Iz v5)] [] 1 (by simp [F5]) (by simp [F5]) ?_
   simp only [Option.some.injEq] at hF
   subst hF
   refine AW.ret (hQ _ _ _ ?_ (matchO_0 ?_)).1
   ·simp [Try.f34, F5]
   ·simp [F5]
theorem w_law15_agree (k : Nat) (v0 : Int) (v1 : (List api_Arc)) (v2 : (List Int)) (v3 : Bool) (hF : law15_agree k v0 v1 v2 = some v3) :
  FCall Try.prog 14 [AV.agg [AV.int .i64 v0, AV.lst false false (List.map api_Arc.av v1)], AV.lst false false (List.map (AV.int .i64) v2)] [] (AV.bool v3) [] := by
 unfold law15_agree at hF
 refine EN Try.func14 ?_
 intro c0 w0 Q h0 hQ
 refine WK [(0, AV.agg [Iz v0, AV.lst false false (List.map api_Arc.av v1)]), (1, Lz v2)] [] 0 (by simp) (by simp) ?_
 refine SQ [] [none, none] fun _ _ g r => ?_
 try simp
 and_intros <;> first | exact g _ (by kernel_rfl) | refine r _ _ _ ?_ | omega | (simp [maxLen] <;> omega)
 refine WK [(1, Lz v2), (2, AV.ptr 0 0)] [(0, .cells [Iz v0, AV.lst false false (List.map api_Arc.av v1)])] 1 (by simp) (by simp) ?_
 refine SQ [] [none, none, none, none, none, none, none] fun _ _ g r => ?_
 try simp
 and_intros
 try any_goals first | omega | (simp [maxLen] <;> omega)
 obtain ⟨v4, v5, h1, hF⟩ := bnd2_elim hF
 refine AC (w_flow_Max k _ _ _ _ h1) (.cons (.same (by simp)) .nil) ?_
 try simp
 and_intros <;> first | exact g _ (by kernel_rfl) | refine r _ _ _ ?_ | omega | (simp [maxLen] <;> omega)
 refine WK [(1, Lz v2), (2, AV.ptr 0 0), (5, AV.slc 1 0 1 v4.length false), (6, Iz v5)] [(0, .cells [Iz v0, AV.lst false false (List.map api_Arc.av v1)]), (1, .grow (List.map (AV.int .i64) v4))] 2 (by simp) (by simp) ?_
 refine AW.frz 1 (o := .grow (List.map (AV.int .i64) v4)) (by simp) rfl [(5, Lz v4)] [] ⟨(.l (by simp) (by simp) (by simp) (by simp)), trivial⟩ trivial ?_
 refine WK [(1, Lz v2), (2, AV.ptr 0 0), (5, Lz v4), (6, Iz v5)] [(0, .cells [Iz v0, AV.lst false false (List.map api_Arc.av v1)])] 2 (by simp) (by simp) ?_
 refine SQ [] [none, none, none, none, none, none, none] fun _ _ g r => ?_
 try simp
 and_intros
 try any_goals first | omega | (simp [maxLen] <;> omega)
 obtain ⟨v6, v7, h2, hF⟩ := bnd2_elim hF
 refine AC (w_ref15_Max k _ _ _ _ h2) (.cons (.same (by simp)) .nil) ?_
 try simp
 and_intros <;> first | exact g _ (by kernel_rfl) | refine r _ _ _ ?_ | omega | (simp [maxLen] <;> omega)
 refine WK [(1, Lz v2), (2, AV.ptr 0 0), (5, Lz v4), (6, Iz v5), (7, Lz v6), (8, Iz v7)] [(0, .cells [Iz v0, AV.lst false false (List.map api_Arc.av v1)])] 2 (by simp) (by simp) ?_
 refine AW.seq fun K29 hK29 => ?_
 refine SQ [] [none, none, none, none, some (22, false), some (22, false), some (22, false), some (22, false), some (22, false), none, none, some (29, false), some (29, false), some (29, false), some (29, false), some (29, false), some (29, false), some (29, false), none, none, some (38, false), some (38, false), some (38, false), some (38, false), some (38, false), some (38, false), some (38, false), none] fun _ _ g r => ?_
 by_cases h3 : v5 ≠ v7
 ·replace hF := ite_t h3 hF
  have h3_ := eqb_f h3
  have h3__ := neb_t h3
  have F1 := And.intro h3 (And.intro h3_ h3__)
  try simp [F1]
  and_intros <;> first | exact g _ (by kernel_rfl) | refine r _ _ _ ?_ | omega | (simp [maxLen, F1] <;> omega)
  refine WK [(2, AV.ptr 0 0), (5, Lz v4), (6, Iz v5), (7, Lz v6), (46, AV.bool true)] [(0, .cells [Iz v0, AV.lst false false (List.map api_Arc.av v1)])] 2 (by simp [F1]) (by simp [F1]) ?_
  refine CT (by simp [F1]) ?_
  refine SQ [] [none] fun _ _ g r => ?_
  try simp [F1]
  and_intros <;> first | exact g _ (by kernel_rfl) | refine r _ _ _ ?_ | omega | (simp [maxLen, F1] <;> omega)
  refine WK [(4, AV.bool false)] [] 2 (by simp [F1]) (by simp [F1]) ?_
  simp only [Option.some.injEq] at hF
  subst hF
  refine AW.ret (hQ _ _ _ ?_ (matchO_0 ?_)).1
  ·simp [Try.f14, F1]
  ·simp [F1]
 ·replace hF := ite_f h3 hF
  have h3q : v5 = v7 := Classical.not_not.1 h3
  have h3_ := eqb_t h3q
  have h3__ := neb_f h3q
  try simp [h3_, h3__]
  and_intros
  try any_goals first | omega | (simp [h3_, h3__, maxLen] <;> omega)
  obtain ⟨v8, h4, hF⟩ := bnd1_elim hF
  refine AC (w_flow_Check k _ _ _ h4) (.cons (.same (by simp [h3_, h3__])) .nil) ?_
  try simp [h3_, h3__]
  and_intros
  try any_goals first | omega | (simp [h3_, h3__, maxLen] <;> omega)
  obtain ⟨v9, h5, hF⟩ := bnd1_elim hF
  refine AC (w_ref15_Check k _ _ _ h5) (.cons (.same (by simp [h3_, h3__])) .nil) ?_
  by_cases h6 : v8 ≠ v9
  ·replace hF := ite_t h6 hF
   have h6_ := eqb_f h6
   have h6__ := neb_t h6
   have F2 := And.intro h3_ (And.intro h3__ (And.intro h6 (And.intro h6_ h6__)))
   try simp [F2]
   and_intros <;> first | exact g _ (by kernel_rfl) | refine r _ _ _ ?_ | omega | (simp [maxLen, F2] <;> omega)
   refine WK [(2, AV.ptr 0 0), (5, Lz v4), (6, Iz v5), (7, Lz v6), (46, AV.bool true)] [(0, .cells [Iz v0, AV.lst false false (List.map api_Arc.av v1)])] 2 (by simp [F2]) (by simp [F2]) ?_
   refine CT (by simp [F2]) ?_
   refine SQ [] [none] fun _ _ g r => ?_
   try simp [F2]
   and_intros <;> first | exact g _ (by kernel_rfl) | refine r _ _ _ ?_ | omega | (simp [maxLen, F2] <;> omega)
   refine WK [(4, AV.bool false)] [] 2 (by simp [F2]) (by simp [F2]) ?_
   simp only [Option.some.injEq] at hF
   subst hF
   refine AW.ret (hQ _ _ _ ?_ (matchO_0 ?_)).1
   ·simp [Try.f14, F2]
   ·simp [F2]
  ·replace hF := ite_f h6 hF
   have h6q : v8 = v9 := Classical.not_not.1 h6
   have h6_ := eqb_t h6q
   have h6__ := neb_f h6q
   have F3 := And.intro h3_ (And.intro h3__ (And.intro h6_ h6__))
   try simp [F3]
   and_intros
   try any_goals first | omega | (simp [maxLen, F3] <;> omega)
   obtain ⟨v10, h7, hF⟩ := bnd1_elim hF
   refine AC (w_flow_Valid k _ _ _ _ h7) (.cons (.same (by simp [F3])) (.cons (.same (by simp [F3])) .nil)) ?_
   try simp [F3]
   and_intros
   try any_goals first | omega | (simp [maxLen, F3] <;> omega)
   obtain ⟨v11, h8, hF⟩ := bnd1_elim hF
   refine AC (w_ref15_Valid k _ _ _ _ h8) (.cons (.same (by simp [F3])) (.cons (.same (by simp [F3])) .nil)) ?_
   by_cases h9 : (v10 != v11) = true
   ·replace hF := ite_t h9 hF
    have h9_ := h9
    try simp at h9_
    have F4 := And.intro F3 (And.intro h9 h9_)
    try simp [F4]
    and_intros <;> first | exact g _ (by kernel_rfl) | refine r _ _ _ ?_ | omega | (simp [maxLen, F4] <;> omega)
    refine WK [(2, AV.ptr 0 0), (5, Lz v4), (6, Iz v5), (7, Lz v6), (46, AV.bool true)] [(0, .cells [Iz v0, AV.lst false false (List.map api_Arc.av v1)])] 2 (by simp [F4]) (by simp [F4]) ?_
    refine CT (by simp [F4]) ?_
    refine SQ [] [none] fun _ _ g r => ?_
    try simp [F4]
    and_intros <;> first | exact g _ (by kernel_rfl) | refine r _ _ _ ?_ | omega | (simp [maxLen, F4] <;> omega)
    refine WK [(4, AV.bool false)] [] 2 (by simp [F4]) (by simp [F4]) ?_
    simp only [Option.some.injEq] at hF
    subst hF
    refine AW.ret (hQ _ _ _ ?_ (matchO_0 ?_)).1
    ·simp [Try.f14, F4]
    ·simp [F4]
   ·replace hF := ite_f h9 hF
    have h9_ := h9
    try simp at h9_
    have F5 := And.intro F3 (And.intro h9 h9_)
    try simp [F5]
    and_intros
    try any_goals first | omega | (simp [maxLen, F5] <;> omega)
    obtain ⟨v12, h10, hF⟩ := bnd1_elim hF
    refine AC (w_flow_Value k _ _ _ _ h10) (.cons (.same (by simp [F5])) (.cons (.same (by simp [F5])) .nil)) ?_
    try simp [F5]
    and_intros
    try any_goals first | omega | (simp [maxLen, F5] <;> omega)
    obtain ⟨v13, h11, hF⟩ := bnd1_elim hF
    refine AC (w_ref15_Value k _ _ _ _ h11) (.cons (.same (by simp [F5])) (.cons (.same (by simp [F5])) .nil)) ?_
    try simp [F5]
    and_intros <;> first | exact g _ (by kernel_rfl) | refine r _ _ _ ?_ | omega | (simp [maxLen, F5] <;> omega)
    refine WK [(2, AV.ptr 0 0), (5, Lz v4), (6, Iz v5), (7, Lz v6), (46, AV.bool (v12 != v13))] [(0, .cells [Iz v0, AV.lst false false (List.map api_Arc.av v1)])] 2 (by simp [F5]) (by simp [F5]) ?_
    by_cases h12 : v12 ≠ v13
    ·replace hF := ite_t h12 hF
     have h12_ := eqb_f h12
     have h12__ := neb_t h12
     have F6 := And.intro F5 (And.intro h12 (And.intro h12_ h12__))
     refine CT (by simp [F6] <;> omega) ?_
     refine SQ [] [none] fun _ _ g r => ?_
     try simp [F6]
     and_intros <;> first | exact g _ (by kernel_rfl) | refine r _ _ _ ?_ | omega | (simp [maxLen, F6] <;> omega)
     refine WK [(4, AV.bool false)] [] 2 (by simp [F6]) (by simp [F6]) ?_
     simp only [Option.some.injEq] at hF
     subst hF
     refine AW.ret (hQ _ _ _ ?_ (matchO_0 ?_)).1
     ·simp [Try.f14, F6]
     ·simp [F6]
    ·replace hF := ite_f h12 hF
     have h12q : v12 = v13 := Classical.not_not.1 h12
     have h12_ := eqb_t h12q
     have h12__ := neb_f h12q
     have F7 := And.intro F5 (And.intro h12_ h12__)
     refine CF (by simp [F7] <;> omega) ?_
     refine AW.skip ?_
     refine hK29 _ _ _ ?_
     refine AW.seq fun K37 hK37 => ?_
     refine SQ [] [none, none] fun _ _ g r => ?_
     try simp [F7]
     and_intros <;> first | exact g _ (by kernel_rfl) | refine r _ _ _ ?_ | omega | (simp [maxLen, F7] <;> omega)
     refine WK [(2, AV.ptr 0 0), (5, Lz v4), (7, Lz v6), (48, AV.bool (v5 != 0))] [(0, .cells [Iz v0, AV.lst false false (List.map api_Arc.av v1)])] 2 (by simp [F7]) (by simp [F7]) ?_
     by_cases h13 : v5 ≠ 0
     ·replace hF := ite_t h13 hF
      have h13_ := eqb_f h13
      have h13__ := neb_t h13
      have F8 := And.intro F7 (And.intro h13 (And.intro h13_ h13__))
      refine CT (by simp [F8] <;> omega) ?_
      refine SQ [] [none, none, none, none] fun _ _ g r => ?_
      try simp [F8]
      and_intros <;> first | exact g _ (by kernel_rfl) | refine r _ _ _ ?_ | omega | (simp [maxLen, F8] <;> omega)
      refine WK [(4, AV.bool ((v4.length : Int) == 0))] [] 2 (by simp [F8]) (by simp [F8]) ?_
      simp only [Option.some.injEq] at hF
      subst hF
      refine AW.ret (hQ _ _ _ ?_ (matchO_0 ?_)).1
      ·simp [Try.f14, F8]
      ·simp [F8]
     ·replace hF := ite_f h13 hF
      have h13q : v5 = 0 := Classical.not_not.1 h13
      have h13_ := eqb_t h13q
      have h13__ := neb_f h13q
      have h13__h3 := h3_
      simp only [h13q] at h13__h3
      have h13___h3 := h3__
      simp only [h13q] at h13___h3
      have F9 := And.intro F7 (And.intro h13_ (And.intro h13__ (And.intro h13q (And.intro h13__h3 h13___h3))))
      refine CF (by simp [F9] <;> omega) ?_
      refine AW.skip ?_
      refine hK37 _ _ _ ?_
      refine SQ [] [none, none, none, none, some (55, true), some (55, true), some (55, true), some (55, true), some (55, true), some (55, true), some (55, true), none, none] fun _ _ g r => ?_
      try simp [F9]
      and_intros
      try any_goals first | omega | (simp [maxLen, F9] <;> omega)
      obtain ⟨v14, h14, hF⟩ := bnd1_elim hF
      refine AC (w_ref15_Valid k _ _ _ _ h14) (.cons (.same (by simp [F9])) (.cons (.same (by simp [F9])) .nil)) ?_
      by_cases h15 : v14 = true
      ·replace hF := ite_t h15 hF
       have h15_ := h15
       try simp at h15_
       have F10 := And.intro F9 (And.intro h15 h15_)
       try simp [F10]
       and_intros
       try any_goals first | omega | (simp [maxLen, F10] <;> omega)
       obtain ⟨v15, h16, hF⟩ := bnd1_elim hF
       refine AC (w_ref15_Value k _ _ _ _ h16) (.cons (.same (by simp [F10])) (.cons (.same (by simp [F10])) .nil)) ?_
       try simp [F10]
       and_intros
       try any_goals first | omega | (simp [maxLen, F10] <;> omega)
       obtain ⟨v16, h17, hF⟩ := bnd1_elim hF
       refine AC (w_ref15_Value k _ _ _ _ h17) (.cons (.same (by simp [F10])) (.cons (.same (by simp [F10])) .nil)) ?_
       try simp [F10]
       and_intros <;> first | exact g _ (by kernel_rfl) | refine r _ _ _ ?_ | omega | (simp [maxLen, F10] <;> omega)
       refine WK [(4, AV.bool (v15 == v16))] [] 2 (by simp [F10]) (by simp [F10]) ?_
       simp only [Option.some.injEq] at hF
       subst hF
       refine AW.ret (hQ _ _ _ ?_ (matchO_0 ?_)).1
       ·simp [Try.f14, F10]
       ·simp [F10]
      ·replace hF := ite_f h15 hF
       have h15_ := h15
       try simp at h15_
       have F11 := And.intro F9 (And.intro h15 h15_)
       try simp [F11]
       and_intros <;> first | exact g _ (by kernel_rfl) | refine r _ _ _ ?_ | omega | (simp [maxLen, F11] <;> omega)
       refine WK [(4, AV.bool false)] [] 2 (by simp [F11]) (by simp [F11]) ?_
       simp only [Option.some.injEq] at hF
       subst hF
       refine AW.ret (hQ _ _ _ ?_ (matchO_0 ?_)).1
       ·simp [Try.f14, F11]
       ·simp [F11]
theorem w_ref15_PathsOK (k : Nat) (v0 : Int) (v1 : (List api_Arc)) (v2 : (List Int)) (v3 : (List (List Int))) (v4 : Bool) (hF : ref15_PathsOK k v0 v1 v2 v3 = some v4) :
  FCall Try.prog 41 [AV.agg [AV.int .i64 v0, AV.lst false false (List.map api_Arc.av v1)], AV.lst false false (List.map (AV.int .i64) v2), AV.lst false false (List.map (sl (AV.int .i64)) v3)] [] (AV.bool v4) [] := by
 unfold ref15_PathsOK at hF
 refine EN Try.func41 ?_
 intro c0 w0 Q h0 hQ
 refine WK [(0, AV.agg [Iz v0, AV.lst false false (List.map api_Arc.av v1)]), (1, Lz v2), (2, AV.lst false false (List.map (sl (AV.int .i64)) v3))] [] 0 (by simp [-List.reduceReplicate, sOf_set, ofI_set, allU8_set]) (by simp [-List.reduceReplicate, sOf_set, ofI_set, allU8_set]) ?_
 refine SQ [] [none, none] fun _ _ g r => ?_
 try simp [-List.reduceReplicate, sOf_set, ofI_set, allU8_set]
 and_intros <;> first | exact g _ (by kernel_rfl) | refine r _ _ _ ?_ | omega | (simp [-List.reduceReplicate, sOf_set, ofI_set, allU8_set, maxLen] <;> omega)
 refine WK [(1, Lz v2), (2, AV.lst false false (List.map (sl (AV.int .i64)) v3)), (3, AV.ptr 0 0)] [(0, .cells [Iz v0, AV.lst false false (List.map api_Arc.av v1)])] 1 (by simp [-List.reduceReplicate, sOf_set, ofI_set, allU8_set]) (by simp [-List.reduceReplicate, sOf_set, ofI_set, allU8_set]) ?_
 refine SQ [17] [none, none, none, none, none] fun _ _ g r => ?_
 obtain ⟨h1, hF⟩ := chk_elim hF
 try simp [-List.reduceReplicate, sOf_set, ofI_set, allU8_set, h1]
 and_intros <;> first | exact g _ (by kernel_rfl) | refine r _ _ _ ?_ | omega | (simp [-List.reduceReplicate, sOf_set, ofI_set, allU8_set, h1, maxLen] <;> omega)
 refine WK [(1, Lz v2), (2, AV.lst false false (List.map (sl (AV.int .i64)) v3)), (3, AV.ptr 0 0), (7, AV.slc 1 0 1 ((List.replicate ((v1.length : Int)).toNat (0 : Int)).length) true)] [(0, .cells [Iz v0, AV.lst false false (List.map api_Arc.av v1)]), (1, .cells (List.map (AV.int .i64) (List.replicate ((v1.length : Int)).toNat (0 : Int))))] 2 (by simp [-List.reduceReplicate, sOf_set, ofI_set, allU8_set, h1]) (by simp [-List.reduceReplicate, sOf_set, ofI_set, allU8_set, h1]) ?_
 refine AW.seq fun K24394 hK24394 => ?_
 refine SQ [] [none, none, none, none, none, none] fun _ _ g r => ?_
 try simp [-List.reduceReplicate, sOf_set, ofI_set, allU8_set, h1]
 and_intros
 try any_goals first | omega | (simp [-List.reduceReplicate, sOf_set, ofI_set, allU8_set, h1, maxLen] <;> omega)
 obtain ⟨v5, h2, hF⟩ := bnd1_elim hF
 refine AC (w_ref15_Value k _ _ _ _ h2) (.cons (.same (by simp [-List.reduceReplicate, sOf_set, ofI_set, allU8_set, h1])) (.cons (.same (by simp [-List.reduceReplicate, sOf_set, ofI_set, allU8_set, h1])) .nil)) ?_
 try simp [-List.reduceReplicate, sOf_set, ofI_set, allU8_set, h1]
 and_intros <;> first | exact g _ (by kernel_rfl) | refine r _ _ _ ?_ | omega | (simp [-List.reduceReplicate, sOf_set, ofI_set, allU8_set, h1, maxLen] <;> omega)
 refine WK [(1, Lz v2), (2, AV.lst false false (List.map (sl (AV.int .i64)) v3)), (3, AV.ptr 0 0), (7, AV.slc 1 0 1 ((List.replicate ((v1.length : Int)).toNat (0 : Int)).length) true), (23, AV.bool ((v3.length : Int) != v5))] [(0, .cells [Iz v0, AV.lst false false (List.map api_Arc.av v1)]), (1, .cells (List.map (AV.int .i64) (List.replicate ((v1.length : Int)).toNat (0 : Int))))] 2 (by simp [-List.reduceReplicate, sOf_set, ofI_set, allU8_set, h1]) (by simp [-List.reduceReplicate, sOf_set, ofI_set, allU8_set, h1]) ?_
 by_cases h3 : (v3.length : Int) ≠ v5
 ·replace hF := ite_t h3 hF
  have h3_ := eqb_f h3
  have h3__ := neb_t h3
  have F1 := And.intro h1 (And.intro h3 (And.intro h3_ h3__))
  refine CT (by simp [-List.reduceReplicate, sOf_set, ofI_set, allU8_set, F1] <;> omega) ?_
  refine SQ [] [none] fun _ _ g r => ?_
  try simp [-List.reduceReplicate, sOf_set, ofI_set, allU8_set, F1]
  and_intros <;> first | exact g _ (by kernel_rfl) | refine r _ _ _ ?_ | omega | (simp [-List.reduceReplicate, sOf_set, ofI_set, allU8_set, maxLen, F1] <;> omega)
  refine WK [(6, AV.bool false)] [] 2 (by simp [-List.reduceReplicate, sOf_set, ofI_set, allU8_set, F1]) (by simp [-List.reduceReplicate, sOf_set, ofI_set, allU8_set, F1]) ?_
  simp only [Option.some.injEq] at hF
  subst hF
  refine AW.ret (hQ _ _ _ ?_ (matchO_0 ?_)).1
  ·simp [Try.f41, F1]
  ·simp [F1]
 ·replace hF := ite_f h3 hF
  have h3q : (v3.length : Int) = v5 := Classical.not_not.1 h3
  have h3_ := eqb_t h3q
  have h3__ := neb_f h3q
  have F2 := And.intro h1 (And.intro h3_ h3__)
  refine CF (by simp [-List.reduceReplicate, sOf_set, ofI_set, allU8_set, F2] <;> omega) ?_
  refine AW.skip ?_
  refine hK24394 _ _ _ ?_
  refine AW.seq fun K36587 hK36587 => ?_
  refine SQ [] [none] fun _ _ g r => ?_
  try simp [-List.reduceReplicate, sOf_set, ofI_set, allU8_set, F2]
  and_intros <;> first | exact g _ (by kernel_rfl) | refine r _ _ _ ?_ | omega | (simp [-List.reduceReplicate, sOf_set, ofI_set, allU8_set, maxLen, F2] <;> omega)
  refine WK [(1, Lz v2), (2, AV.lst false false (List.map (sl (AV.int .i64)) v3)), (3, AV.ptr 0 0), (7, AV.slc 1 0 1 ((List.replicate ((v1.length : Int)).toNat (0 : Int)).length) true), (8, Iz 0)] [(0, .cells [Iz v0, AV.lst false false (List.map api_Arc.av v1)]), (1, .cells (List.map (AV.int .i64) (List.replicate ((v1.length : Int)).toNat (0 : Int))))] 2 (by simp [-List.reduceReplicate, sOf_set, ofI_set, allU8_set, F2]) (by simp [-List.reduceReplicate, sOf_set, ofI_set, allU8_set, F2]) ?_
  refine AW.block ?_
  refine AW.loopF (α := (Int × (List Int))) (fun n (v6, v7) => ref15_PathsOK.L1 k v1 v2 v3 n v6 v7 = some v4) (fun (v6, v7) => [(1, Lz v2), (2, AV.lst false false (List.map (sl (AV.int .i64)) v3)), (3, AV.ptr 0 0), (7, AV.slc 1 0 1 v7.length true), (8, Iz v6)]) (fun (v6, v7) => [(0, .cells [Iz v0, AV.lst false false (List.map api_Arc.av v1)]), (1, .cells (List.map (AV.int .i64) v7))]) 2 k ((0, (List.replicate ((v1.length : Int)).toNat (0 : Int)))) hF (by simp [-List.reduceReplicate, sOf_set, ofI_set, allU8_set, F2]) (by simp [-List.reduceReplicate, sOf_set, ofI_set, allU8_set, F2]) (by simp) ?_
  rintro (_|n1) ⟨v6, v7⟩ hF K45730 hK45730
  ·try dsimp only at hF
   rw [ref15_PathsOK.L1] at hF; cases hF
  try dsimp only at hF
  rw [ref15_PathsOK.L1] at hF
  refine AW.seq fun K45732 hK45732 => ?_
  refine SQ [] [none, none, none, none] fun _ _ g r => ?_
  try simp [-List.reduceReplicate, sOf_set, ofI_set, allU8_set, F2]
  and_intros <;> first | exact g _ (by kernel_rfl) | refine r _ _ _ ?_ | omega | (simp [-List.reduceReplicate, sOf_set, ofI_set, allU8_set, maxLen, F2] <;> omega)
  refine WK [(1, Lz v2), (2, AV.lst false false (List.map (sl (AV.int .i64)) v3)), (3, AV.ptr 0 0), (7, AV.slc 1 0 1 v7.length true), (8, Iz v6), (27, AV.bool (decide (v6 < (v3.length : Int))))] [(0, .cells [Iz v0, AV.lst false false (List.map api_Arc.av v1)]), (1, .cells (List.map (AV.int .i64) v7))] 2 (by simp [-List.reduceReplicate, sOf_set, ofI_set, allU8_set, F2]) (by simp [-List.reduceReplicate, sOf_set, ofI_set, allU8_set, F2]) ?_
  by_cases h4 : v6 < (v3.length : Int)
  ·replace hF := ite_t h4 hF
   have h4_ := h4
   try simp [-List.reduceReplicate] at h4_
   have F3 := And.intro F2 (And.intro h4 h4_)
   refine CT (by simp [-List.reduceReplicate, sOf_set, ofI_set, allU8_set, F3] <;> omega) ?_
   refine AW.skip ?_
   refine hK45732 _ _ _ ?_
   refine AW.seq fun K47255 hK47255 => ?_
   refine AW.block ?_
   refine SQ [] [none] fun _ _ g r => ?_
   try simp [-List.reduceReplicate, sOf_set, ofI_set, allU8_set, F3]
   and_intros <;> first | exact g _ (by kernel_rfl) | refine r _ _ _ ?_ | omega | (simp [-List.reduceReplicate, sOf_set, ofI_set, allU8_set, maxLen, F3] <;> omega)
   refine WK [(1, Lz v2), (2, AV.lst false false (List.map (sl (AV.int .i64)) v3)), (3, AV.ptr 0 0), (7, AV.slc 1 0 1 v7.length true), (8, Iz v6), (9, Iz 0)] [(0, .cells [Iz v0, AV.lst false false (List.map api_Arc.av v1)]), (1, .cells (List.map (AV.int .i64) v7))] 2 (by simp [-List.reduceReplicate, sOf_set, ofI_set, allU8_set, F3]) (by simp [-List.reduceReplicate, sOf_set, ofI_set, allU8_set, F3]) ?_
   refine SQ [30] [none, none] fun _ _ g r => ?_
   try simp [-List.reduceReplicate, sOf_set, ofI_set, allU8_set, F3]
   and_intros <;> first | exact g _ (by kernel_rfl) | refine r _ _ _ ?_ | omega | (simp [-List.reduceReplicate, sOf_set, ofI_set, allU8_set, maxLen, F3] <;> omega)
   refine WK [(1, Lz v2), (2, AV.lst false false (List.map (sl (AV.int .i64)) v3)), (3, AV.ptr 0 0), (7, AV.slc 1 0 1 v7.length true), (8, Iz v6), (9, Iz 0), (10, AV.slc 2 0 1 (([0] : List Int).length) true)] [(0, .cells [Iz v0, AV.lst false false (List.map api_Arc.av v1)]), (1, .cells (List.map (AV.int .i64) v7)), (2, .cells (List.map (AV.int .i64) ([0] : List Int)))] 3 (by simp [-List.reduceReplicate, sOf_set, ofI_set, allU8_set, F3]) (by simp [-List.reduceReplicate, sOf_set, ofI_set, allU8_set, F3]) ?_
   refine AW.seq fun K48016 hK48016 => ?_
   refine SQ [] [none] fun _ _ g r => ?_
   try simp [-List.reduceReplicate, sOf_set, ofI_set, allU8_set, F3]
   and_intros <;> first | exact g _ (by kernel_rfl) | refine r _ _ _ ?_ | omega | (simp [-List.reduceReplicate, sOf_set, ofI_set, allU8_set, maxLen, F3] <;> omega)
   refine WK [(1, Lz v2), (2, AV.lst false false (List.map (sl (AV.int .i64)) v3)), (3, AV.ptr 0 0), (7, AV.slc 1 0 1 v7.length true), (8, Iz v6), (9, Iz 0), (10, AV.slc 2 0 1 (([0] : List Int).length) true), (11, Iz 0)] [(0, .cells [Iz v0, AV.lst false false (List.map api_Arc.av v1)]), (1, .cells (List.map (AV.int .i64) v7)), (2, .cells (List.map (AV.int .i64) ([0] : List Int)))] 3 (by simp [-List.reduceReplicate, sOf_set, ofI_set, allU8_set, F3]) (by simp [-List.reduceReplicate, sOf_set, ofI_set, allU8_set, F3]) ?_
   refine AW.block ?_
   refine AW.flg [(10, AV.slc 2 0 1 (([0] : List Int).length) false)] [] ⟨.slc, trivial⟩ trivial (by simp) ?_
   refine AW.loopF (α := (Int × Int × (List Int) × (List Int))) (fun n (v8, v9, v10, v11) => ref15_PathsOK.L2 k v1 v2 v3 v6 (fun v6_ v7_ => ref15_PathsOK.L1 k v1 v2 v3 n1 v6_ v7_) n v8 v9 v10 v11 = some v4) (fun (v8, v9, v10, v11) => [(1, Lz v2), (2, AV.lst false false (List.map (sl (AV.int .i64)) v3)), (3, AV.ptr 0 0), (7, AV.slc 1 0 1 v10.length true), (8, Iz v6), (9, Iz v8), (10, AV.slc 2 0 1 v11.length false), (11, Iz v9)]) (fun (v8, v9, v10, v11) => [(0, .cells [Iz v0, AV.lst false false (List.map api_Arc.av v1)]), (1, .cells (List.map (AV.int .i64) v10)), (2, .cells (List.map (AV.int .i64) v11))]) 3 k ((0, 0, v7, ([0] : List Int))) hF (by simp [-List.reduceReplicate, sOf_set, ofI_set, allU8_set, F3]) (by simp [-List.reduceReplicate, sOf_set, ofI_set, allU8_set, F3]) (by simp) ?_
   rintro (_|n2) ⟨v8, v9, v10, v11⟩ hF K48585 hK48585
   ·try dsimp only at hF
    rw [ref15_PathsOK.L2] at hF; cases hF
   try dsimp only at hF
   rw [ref15_PathsOK.L2] at hF
   refine AW.seq fun K48587 hK48587 => ?_
   refine SQ [] [none, none, none, none, none, none, none] fun _ _ g r => ?_
   obtain ⟨v12, h5, h6, h7, hF⟩ := idx_elim hF
   have h7_ := get_of h7
   try simp [-List.reduceReplicate] at h7_
   have h6_ := h6
   try simp [-List.reduceReplicate] at h6_
   have F4 := And.intro F3 (And.intro h5 (And.intro h6 (And.intro h7 (And.intro h7_ h6_))))
   try simp [-List.reduceReplicate, sOf_set, ofI_set, allU8_set, F4]
   and_intros <;> first | exact g _ (by kernel_rfl) | refine r _ _ _ ?_ | omega | (simp [-List.reduceReplicate, sOf_set, ofI_set, allU8_set, maxLen, F4] <;> omega)
   refine WK [(1, Lz v2), (2, AV.lst false false (List.map (sl (AV.int .i64)) v3)), (3, AV.ptr 0 0), (7, AV.slc 1 0 1 v10.length true), (8, Iz v6), (9, Iz v8), (10, AV.slc 2 0 1 v11.length false), (11, Iz v9), (37, AV.bool (decide (v9 < (v12.length : Int))))] [(0, .cells [Iz v0, AV.lst false false (List.map api_Arc.av v1)]), (1, .cells (List.map (AV.int .i64) v10)), (2, .cells (List.map (AV.int .i64) v11))] 3 (by simp [-List.reduceReplicate, sOf_set, ofI_set, allU8_set, F4]) (by simp [-List.reduceReplicate, sOf_set, ofI_set, allU8_set, F4]) ?_
   by_cases h8 : v9 < (v12.length : Int)
   ·replace hF := ite_t h8 hF
    have h8_ := h8
    try simp [-List.reduceReplicate] at h8_
    have F5 := And.intro F4 (And.intro h8 h8_)
    refine CT (by simp [-List.reduceReplicate, sOf_set, ofI_set, allU8_set, F5] <;> omega) ?_
    refine AW.skip ?_
    refine hK48587 _ _ _ ?_
    refine AW.seq fun K48681 hK48681 => ?_
    refine AW.block ?_
    refine SQ [] [none, none, none, none, none, none, none, none] fun _ _ g r => ?_
    obtain ⟨v13, h9, h10, h11, hF⟩ := idx_elim hF
    have h11_ := get_of h11
    try simp [-List.reduceReplicate] at h11_
    have h10_ := h10
    try simp [-List.reduceReplicate] at h10_
    have F6 := And.intro F5 (And.intro h9 (And.intro h10 (And.intro h11 (And.intro h11_ h10_))))
    try simp [-List.reduceReplicate, sOf_set, ofI_set, allU8_set, F6]
    and_intros <;> first | exact g _ (by kernel_rfl) | refine r _ _ _ ?_ | omega | (simp [-List.reduceReplicate, sOf_set, ofI_set, allU8_set, maxLen, F6] <;> omega)
    refine WK [(1, Lz v2), (2, AV.lst false false (List.map (sl (AV.int .i64)) v3)), (3, AV.ptr 0 0), (7, AV.slc 1 0 1 v10.length true), (8, Iz v6), (9, Iz v8), (10, AV.slc 2 0 1 v11.length false), (11, Iz v9), (12, Iz v13)] [(0, .cells [Iz v0, AV.lst false false (List.map api_Arc.av v1)]), (1, .cells (List.map (AV.int .i64) v10)), (2, .cells (List.map (AV.int .i64) v11))] 3 (by simp [-List.reduceReplicate, sOf_set, ofI_set, allU8_set, F6]) (by simp [-List.reduceReplicate, sOf_set, ofI_set, allU8_set, F6]) ?_
    refine AW.seq fun K48687 hK48687 => ?_
    refine SQ [] [none, none, none, some (49, false), some (49, false), some (49, false), some (49, false), some (49, false), none, none, some (56, false), some (56, false), some (56, false), some (56, false), some (56, false), some (56, false), some (56, false), some (56, false), none] fun _ _ g r => ?_
    by_cases h12 : v13 < 0
    ·replace hF := ite_t h12 hF
     have h12_ := h12
     try simp [-List.reduceReplicate] at h12_
     have F7 := And.intro F6 (And.intro h12 h12_)
     try simp [-List.reduceReplicate, sOf_set, ofI_set, allU8_set, F7]
     and_intros <;> first | exact g _ (by kernel_rfl) | refine r _ _ _ ?_ | omega | (simp [-List.reduceReplicate, sOf_set, ofI_set, allU8_set, maxLen, F7] <;> omega)
     refine WK [(1, Lz v2), (2, AV.lst false false (List.map (sl (AV.int .i64)) v3)), (3, AV.ptr 0 0), (7, AV.slc 1 0 1 v10.length true), (8, Iz v6), (10, AV.slc 2 0 1 v11.length false), (11, Iz v9), (12, Iz v13), (65, AV.bool true)] [(0, .cells [Iz v0, AV.lst false false (List.map api_Arc.av v1)]), (1, .cells (List.map (AV.int .i64) v10)), (2, .cells (List.map (AV.int .i64) v11))] 3 (by simp [-List.reduceReplicate, sOf_set, ofI_set, allU8_set, F7]) (by simp [-List.reduceReplicate, sOf_set, ofI_set, allU8_set, F7]) ?_
     refine CT (by simp [-List.reduceReplicate, sOf_set, ofI_set, allU8_set, F7]) ?_
     refine SQ [] [none] fun _ _ g r => ?_
     try simp [-List.reduceReplicate, sOf_set, ofI_set, allU8_set, F7]
     and_intros <;> first | exact g _ (by kernel_rfl) | refine r _ _ _ ?_ | omega | (simp [-List.reduceReplicate, sOf_set, ofI_set, allU8_set, maxLen, F7] <;> omega)
     refine WK [(6, AV.bool false)] [] 3 (by simp [-List.reduceReplicate, sOf_set, ofI_set, allU8_set, F7]) (by simp [-List.reduceReplicate, sOf_set, ofI_set, allU8_set, F7]) ?_
     simp only [Option.some.injEq] at hF
     subst hF
     refine AW.ret (hQ _ _ _ ?_ (matchO_0 ?_)).1
     ·simp [Try.f41, F7]
     ·simp [F7]
    ·replace hF := ite_f h12 hF
     have h12_ := h12
     try simp [-List.reduceReplicate] at h12_
     by_cases h13 : (v1.length : Int) ≤ v13
     ·replace hF := ite_t h13 hF
      have h13_ := h13
      try simp [-List.reduceReplicate] at h13_
      have F8 := And.intro F6 (And.intro h12 (And.intro h12_ (And.intro h13 h13_)))
      try simp [-List.reduceReplicate, sOf_set, ofI_set, allU8_set, F8]
      and_intros <;> first | exact g _ (by kernel_rfl) | refine r _ _ _ ?_ | omega | (simp [-List.reduceReplicate, sOf_set, ofI_set, allU8_set, maxLen, F8] <;> omega)
      refine WK [(1, Lz v2), (2, AV.lst false false (List.map (sl (AV.int .i64)) v3)), (3, AV.ptr 0 0), (7, AV.slc 1 0 1 v10.length true), (8, Iz v6), (10, AV.slc 2 0 1 v11.length false), (11, Iz v9), (12, Iz v13), (65, AV.bool true)] [(0, .cells [Iz v0, AV.lst false false (List.map api_Arc.av v1)]), (1, .cells (List.map (AV.int .i64) v10)), (2, .cells (List.map (AV.int .i64) v11))] 3 (by simp [-List.reduceReplicate, sOf_set, ofI_set, allU8_set, F8]) (by simp [-List.reduceReplicate, sOf_set, ofI_set, allU8_set, F8]) ?_
      refine CT (by simp [-List.reduceReplicate, sOf_set, ofI_set, allU8_set, F8]) ?_
      refine SQ [] [none] fun _ _ g r => ?_
      try simp [-List.reduceReplicate, sOf_set, ofI_set, allU8_set, F8]
      and_intros <;> first | exact g _ (by kernel_rfl) | refine r _ _ _ ?_ | omega | (simp [-List.reduceReplicate, sOf_set, ofI_set, allU8_set, maxLen, F8] <;> omega)
      refine WK [(6, AV.bool false)] [] 3 (by simp [-List.reduceReplicate, sOf_set, ofI_set, allU8_set, F8]) (by simp [-List.reduceReplicate, sOf_set, ofI_set, allU8_set, F8]) ?_
      simp only [Option.some.injEq] at hF
      subst hF
      refine AW.ret (hQ _ _ _ ?_ (matchO_0 ?_)).1
      ·simp [Try.f41, F8]
      ·simp [F8]
     ·replace hF := ite_f h13 hF
      have h13_ := h13
      try simp [-List.reduceReplicate] at h13_
      obtain ⟨v14, h14, h15, h16, hF⟩ := idx_elim hF
      have h16_ := get_of h16
      try simp [-List.reduceReplicate] at h16_
      have h15_ := h15
      try simp [-List.reduceReplicate] at h15_
      have F9 := And.intro F6 (And.intro h12 (And.intro h12_ (And.intro h13 (And.intro h13_ (And.intro h14 (And.intro h15 (And.intro h16 (And.intro h16_ h15_))))))))
      try simp [-List.reduceReplicate, sOf_set, ofI_set, allU8_set, F9]
      and_intros <;> first | exact g _ (by kernel_rfl) | refine r _ _ _ ?_ | omega | (simp [-List.reduceReplicate, sOf_set, ofI_set, allU8_set, maxLen, F9] <;> omega)
      refine WK [(1, Lz v2), (2, AV.lst false false (List.map (sl (AV.int .i64)) v3)), (3, AV.ptr 0 0), (7, AV.slc 1 0 1 v10.length true), (8, Iz v6), (10, AV.slc 2 0 1 v11.length false), (11, Iz v9), (12, Iz v13), (65, AV.bool (v14.From != v8))] [(0, .cells [Iz v0, AV.lst false false (List.map api_Arc.av v1)]), (1, .cells (List.map (AV.int .i64) v10)), (2, .cells (List.map (AV.int .i64) v11))] 3 (by simp [-List.reduceReplicate, sOf_set, ofI_set, allU8_set, F9]) (by simp [-List.reduceReplicate, sOf_set, ofI_set, allU8_set, F9]) ?_
      by_cases h17 : v14.From ≠ v8
      ·replace hF := ite_t h17 hF
       have h17_ := eqb_f h17
       have h17__ := neb_t h17
       have F10 := And.intro F9 (And.intro h17 (And.intro h17_ h17__))
       refine CT (by simp [-List.reduceReplicate, sOf_set, ofI_set, allU8_set, F10] <;> omega) ?_
       refine SQ [] [none] fun _ _ g r => ?_
       try simp [-List.reduceReplicate, sOf_set, ofI_set, allU8_set, F10]
       and_intros <;> first | exact g _ (by kernel_rfl) | refine r _ _ _ ?_ | omega | (simp [-List.reduceReplicate, sOf_set, ofI_set, allU8_set, maxLen, F10] <;> omega)
       refine WK [(6, AV.bool false)] [] 3 (by simp [-List.reduceReplicate, sOf_set, ofI_set, allU8_set, F10]) (by simp [-List.reduceReplicate, sOf_set, ofI_set, allU8_set, F10]) ?_
       simp only [Option.some.injEq] at hF
       subst hF
       refine AW.ret (hQ _ _ _ ?_ (matchO_0 ?_)).1
       ·simp [Try.f41, F10]
       ·simp [F10]
      ·replace hF := ite_f h17 hF
       have h17q : v14.From = v8 := Classical.not_not.1 h17
       have h17_ := eqb_t h17q
       have h17__ := neb_f h17q
       have F11 := And.intro F9 (And.intro h17_ h17__)
       refine CF (by simp [-List.reduceReplicate, sOf_set, ofI_set, allU8_set, F11] <;> omega) ?_
       refine AW.skip ?_
       refine hK48687 _ _ _ ?_
       refine SQ [] [none, none, none, none, none, none, none] fun _ _ g r => ?_
       try simp [-List.reduceReplicate, sOf_set, ofI_set, allU8_set, F11]
       and_intros <;> first | exact g _ (by kernel_rfl) | refine r _ _ _ ?_ | omega | (simp [-List.reduceReplicate, sOf_set, ofI_set, allU8_set, maxLen, F11] <;> omega)
       refine WK [(1, Lz v2), (2, AV.lst false false (List.map (sl (AV.int .i64)) v3)), (3, AV.ptr 0 0), (7, AV.slc 1 0 1 v10.length true), (8, Iz v6), (9, Iz v14.To), (10, AV.slc 2 0 1 v11.length false), (11, Iz v9), (12, Iz v13)] [(0, .cells [Iz v0, AV.lst false false (List.map api_Arc.av v1)]), (1, .cells (List.map (AV.int .i64) v10)), (2, .cells (List.map (AV.int .i64) v11))] 3 (by simp [-List.reduceReplicate, sOf_set, ofI_set, allU8_set, F11]) (by simp [-List.reduceReplicate, sOf_set, ofI_set, allU8_set, F11]) ?_
       refine AW.seq fun K48731 hK48731 => ?_
       refine SQ [] [none] fun _ _ g r => ?_
       try simp [-List.reduceReplicate, sOf_set, ofI_set, allU8_set, F11]
       and_intros <;> first | exact g _ (by kernel_rfl) | refine r _ _ _ ?_ | omega | (simp [-List.reduceReplicate, sOf_set, ofI_set, allU8_set, maxLen, F11] <;> omega)
       refine WK [(1, Lz v2), (2, AV.lst false false (List.map (sl (AV.int .i64)) v3)), (3, AV.ptr 0 0), (7, AV.slc 1 0 1 v10.length true), (8, Iz v6), (9, Iz v14.To), (10, AV.slc 2 0 1 v11.length false), (11, Iz v9), (12, Iz v13), (13, Iz 0)] [(0, .cells [Iz v0, AV.lst false false (List.map api_Arc.av v1)]), (1, .cells (List.map (AV.int .i64) v10)), (2, .cells (List.map (AV.int .i64) v11))] 3 (by simp [-List.reduceReplicate, sOf_set, ofI_set, allU8_set, F11]) (by simp [-List.reduceReplicate, sOf_set, ofI_set, allU8_set, F11]) ?_
       refine AW.block ?_
       refine AW.loopF (α := Int) (fun n v15 => ref15_PathsOK.L3 k v2 v9 v10 v11 v13 v14 (fun v8_ v9_ v10_ v11_ => ref15_PathsOK.L2 k v1 v2 v3 v6 (fun v6_ v7_ => ref15_PathsOK.L1 k v1 v2 v3 n1 v6_ v7_) n2 v8_ v9_ v10_ v11_) n v15 = some v4) (fun v15 => [(1, Lz v2), (2, AV.lst false false (List.map (sl (AV.int .i64)) v3)), (3, AV.ptr 0 0), (7, AV.slc 1 0 1 v10.length true), (8, Iz v6), (9, Iz v14.To), (10, AV.slc 2 0 1 v11.length false), (11, Iz v9), (12, Iz v13), (13, Iz v15)]) (fun v15 => [(0, .cells [Iz v0, AV.lst false false (List.map api_Arc.av v1)]), (1, .cells (List.map (AV.int .i64) v10)), (2, .cells (List.map (AV.int .i64) v11))]) 3 k (0) hF (by simp [-List.reduceReplicate, sOf_set, ofI_set, allU8_set, F11]) (by simp [-List.reduceReplicate, sOf_set, ofI_set, allU8_set, F11]) (by simp) ?_
       rintro (_|n3) v15 hF K48760 hK48760
       ·try dsimp only at hF
        rw [ref15_PathsOK.L3] at hF; cases hF
       try dsimp only at hF
       rw [ref15_PathsOK.L3] at hF
       refine AW.seq fun K48762 hK48762 => ?_
       refine SQ [] [none, none, none, none] fun _ _ g r => ?_
       try simp [-List.reduceReplicate, sOf_set, ofI_set, allU8_set, F11]
       and_intros <;> first | exact g _ (by kernel_rfl) | refine r _ _ _ ?_ | omega | (simp [-List.reduceReplicate, sOf_set, ofI_set, allU8_set, maxLen, F11] <;> omega)
       refine WK [(1, Lz v2), (2, AV.lst false false (List.map (sl (AV.int .i64)) v3)), (3, AV.ptr 0 0), (7, AV.slc 1 0 1 v10.length true), (8, Iz v6), (9, Iz v14.To), (10, AV.slc 2 0 1 v11.length false), (11, Iz v9), (12, Iz v13), (13, Iz v15), (75, AV.bool (decide (v15 < (v11.length : Int))))] [(0, .cells [Iz v0, AV.lst false false (List.map api_Arc.av v1)]), (1, .cells (List.map (AV.int .i64) v10)), (2, .cells (List.map (AV.int .i64) v11))] 3 (by simp [-List.reduceReplicate, sOf_set, ofI_set, allU8_set, F11]) (by simp [-List.reduceReplicate, sOf_set, ofI_set, allU8_set, F11]) ?_
       by_cases h18 : v15 < (v11.length : Int)
       ·replace hF := ite_t h18 hF
        have h18_ := h18
        try simp [-List.reduceReplicate] at h18_
        have F12 := And.intro F11 (And.intro h18 h18_)
        refine CT (by simp [-List.reduceReplicate, sOf_set, ofI_set, allU8_set, F12] <;> omega) ?_
        refine AW.skip ?_
        refine hK48762 _ _ _ ?_
        refine AW.seq fun K48766 hK48766 => ?_
        refine AW.block ?_
        refine SQ [] [none, none, none, none, none, none] fun _ _ g r => ?_
        obtain ⟨⟨h19, h20⟩, hF⟩ := chk_elim hF
        have h20_ := ne_of_lt h20
        obtain ⟨v16, h21, h22, h23, hF⟩ := idx_elim hF
        have h23_ := get_of h23
        try simp [-List.reduceReplicate] at h23_
        have h22_ := h22
        try simp [-List.reduceReplicate] at h22_
        have F13 := And.intro F12 (And.intro h19 (And.intro h20 (And.intro h20_ (And.intro h21 (And.intro h22 (And.intro h23 (And.intro h23_ h22_)))))))
        try simp [-List.reduceReplicate, sOf_set, ofI_set, allU8_set, F13]
        and_intros <;> first | exact g _ (by kernel_rfl) | refine r _ _ _ ?_ | omega | (simp [-List.reduceReplicate, sOf_set, ofI_set, allU8_set, maxLen, F13] <;> omega)
        refine WK [(1, Lz v2), (2, AV.lst false false (List.map (sl (AV.int .i64)) v3)), (3, AV.ptr 0 0), (7, AV.slc 1 0 1 v10.length true), (8, Iz v6), (9, Iz v14.To), (10, AV.slc 2 0 1 v11.length false), (11, Iz v9), (12, Iz v13), (13, Iz v15), (83, AV.bool (v16 == v14.To))] [(0, .cells [Iz v0, AV.lst false false (List.map api_Arc.av v1)]), (1, .cells (List.map (AV.int .i64) v10)), (2, .cells (List.map (AV.int .i64) v11))] 3 (by simp [-List.reduceReplicate, sOf_set, ofI_set, allU8_set, F13]) (by simp [-List.reduceReplicate, sOf_set, ofI_set, allU8_set, F13]) ?_
        by_cases h24 : v16 = v14.To
        ·replace hF := ite_t h24 hF
         have h24q : v16 = v14.To := h24
         have h24_ := eqb_t h24q
         have h24__ := neb_f h24q
         have F14 := And.intro F13 (And.intro h24_ h24__)
         refine CT (by simp [-List.reduceReplicate, sOf_set, ofI_set, allU8_set, F14] <;> omega) ?_
         refine SQ [] [none] fun _ _ g r => ?_
         try simp [-List.reduceReplicate, sOf_set, ofI_set, allU8_set, F14]
         and_intros <;> first | exact g _ (by kernel_rfl) | refine r _ _ _ ?_ | omega | (simp [-List.reduceReplicate, sOf_set, ofI_set, allU8_set, maxLen, F14] <;> omega)
         refine WK [(6, AV.bool false)] [] 3 (by simp [-List.reduceReplicate, sOf_set, ofI_set, allU8_set, F14]) (by simp [-List.reduceReplicate, sOf_set, ofI_set, allU8_set, F14]) ?_
         simp only [Option.some.injEq] at hF
         subst hF
         refine AW.ret (hQ _ _ _ ?_ (matchO_0 ?_)).1
         ·simp [Try.f41, F14]
         ·simp [F14]
        ·replace hF := ite_f h24 hF
         have h24_ := eqb_f h24
         have h24__ := neb_t h24
         have F15 := And.intro F13 (And.intro h24 (And.intro h24_ h24__))
         refine CF (by simp [-List.reduceReplicate, sOf_set, ofI_set, allU8_set, F15] <;> omega) ?_
         refine AW.skip ?_
         refine hK48766 _ _ _ ?_
         refine RG [] [none, none, none] fun _ _ g r => ?_
         try simp [-List.reduceReplicate, sOf_set, ofI_set, allU8_set, F15]
         and_intros <;> first | exact g _ (by kernel_rfl) | refine r _ _ _ ?_ | omega | (simp [-List.reduceReplicate, sOf_set, ofI_set, allU8_set, maxLen, F15] <;> omega)
         refine hK48760 _ _ _ ?_
         exact NX (k' := n3) (IntKind.wrap .i64 (v15 + 1)) hF (by simp [-List.reduceReplicate, sOf_set, ofI_set, allU8_set, F15]) (by simp [-List.reduceReplicate, sOf_set, ofI_set, allU8_set, F15])
       ·replace hF := ite_f h18 hF
        have h18_ := h18
        try simp [-List.reduceReplicate] at h18_
        have F16 := And.intro F11 (And.intro h18 h18_)
        refine CF (by simp [-List.reduceReplicate, sOf_set, ofI_set, allU8_set, F16] <;> omega) ?_
        refine AW.exit ?_
        try simp [-List.reduceReplicate]
        refine hK48731 _ _ _ ?_
        refine SQ [] [none, none, none, none, none] fun _ _ g r => ?_
        obtain ⟨h25, hF⟩ := chk_elim hF
        have h25_ := h25
        try simp [-List.reduceReplicate] at h25_
        try simp [-List.reduceReplicate, sOf_set, ofI_set, allU8_set, F16, h25]
        and_intros <;> first | exact g _ (by kernel_rfl) | refine r _ _ _ ?_ | omega | (simp [-List.reduceReplicate, sOf_set, ofI_set, allU8_set, maxLen, F16, h25] <;> omega)
        refine WK [(1, Lz v2), (2, AV.lst false false (List.map (sl (AV.int .i64)) v3)), (3, AV.ptr 0 0), (7, AV.slc 1 0 1 v10.length true), (8, Iz v6), (9, Iz v14.To), (10, AV.slc 3 0 1 ((v11 ++ ([v14.To] : List Int)).length) false), (11, Iz v9), (12, Iz v13)] [(0, .cells [Iz v0, AV.lst false false (List.map api_Arc.av v1)]), (1, .cells (List.map (AV.int .i64) v10)), (3, .cells (List.map (AV.int .i64) (v11 ++ ([v14.To] : List Int))))] 4 (by simp [-List.reduceReplicate, sOf_set, ofI_set, allU8_set, F16, h25] <;> omega) (by simp [-List.reduceReplicate, sOf_set, ofI_set, allU8_set, F16, h25]) ?_
        refine SQ [] [none, none, none, none, none, none, none] fun _ _ g r => ?_
        obtain ⟨⟨h26, h27⟩, hF⟩ := chk_elim hF
        have h27_ := ne_of_lt h27
        obtain ⟨v17, h28, h29, h30, hF⟩ := idx_elim hF
        have h30_ := get_of h30
        try simp [-List.reduceReplicate] at h30_
        have h29_ := h29
        try simp [-List.reduceReplicate] at h29_
        obtain ⟨⟨h31, h32⟩, hF⟩ := chk_elim hF
        have h32_ := ne_of_lt h32
        have F17 := And.intro F16 (And.intro h25 (And.intro h26 (And.intro h27 (And.intro h27_ (And.intro h28 (And.intro h29 (And.intro h30 (And.intro h30_ (And.intro h29_ (And.intro h31 (And.intro h32 h32_)))))))))))
        try simp [-List.reduceReplicate, sOf_set, ofI_set, allU8_set, F17]
        and_intros <;> first | exact g _ (by kernel_rfl) | refine r _ _ _ ?_ | omega | (simp [-List.reduceReplicate, sOf_set, ofI_set, allU8_set, maxLen, F17] <;> omega)
        refine WK [(1, Lz v2), (2, AV.lst false false (List.map (sl (AV.int .i64)) v3)), (3, AV.ptr 0 0), (7, AV.slc 1 0 1 ((v10.set (v13).toNat (IntKind.wrap .i64 (v17 + 1))).length) true), (8, Iz v6), (9, Iz v14.To), (10, AV.slc 3 0 1 ((v11 ++ ([v14.To] : List Int)).length) false), (11, Iz v9), (12, Iz v13)] [(0, .cells [Iz v0, AV.lst false false (List.map api_Arc.av v1)]), (1, .cells (List.map (AV.int .i64) (v10.set (v13).toNat (IntKind.wrap .i64 (v17 + 1))))), (3, .cells (List.map (AV.int .i64) (v11 ++ ([v14.To] : List Int))))] 4 (by simp [-List.reduceReplicate, sOf_set, ofI_set, allU8_set, F17] <;> omega) (by simp [-List.reduceReplicate, sOf_set, ofI_set, allU8_set, F17]) ?_
        refine SQ [] [none, none, none, none, none, none, none, none, none] fun _ _ g r => ?_
        obtain ⟨⟨h33, h34⟩, hF⟩ := chk_elim hF
        have h34_ := ne_of_lt h34
        obtain ⟨v18, h35, h36, h37, hF⟩ := idx_elim hF
        have h37_ := get_of h37
        try simp [-List.reduceReplicate] at h37_
        have h36_ := h36
        try simp [-List.reduceReplicate] at h36_
        have h37__ := get_of (map_get ((AV.int .i64)) h37)
        try simp at h37__
        obtain ⟨v19, h38, h39, h40, hF⟩ := idx_elim hF
        have h40_ := get_of h40
        try simp [-List.reduceReplicate] at h40_
        have h39_ := h39
        try simp [-List.reduceReplicate] at h39_
        have F18 := And.intro F17 (And.intro h33 (And.intro h34 (And.intro h34_ (And.intro h35 (And.intro h36 (And.intro h37 (And.intro h37_ (And.intro h36_ (And.intro h37__ (And.intro h38 (And.intro h39 (And.intro h40 (And.intro h40_ h39_)))))))))))))
        try simp [-List.reduceReplicate, sOf_set, ofI_set, allU8_set, F18]
        and_intros <;> first | exact g _ (by kernel_rfl) | refine r _ _ _ ?_ | omega | (simp [-List.reduceReplicate, sOf_set, ofI_set, allU8_set, maxLen, F18] <;> omega)
        refine WK [(1, Lz v2), (2, AV.lst false false (List.map (sl (AV.int .i64)) v3)), (3, AV.ptr 0 0), (7, AV.slc 1 0 1 ((v10.set (v13).toNat (IntKind.wrap .i64 (v17 + 1))).length) true), (8, Iz v6), (9, Iz v14.To), (10, AV.slc 3 0 1 ((v11 ++ ([v14.To] : List Int)).length) false), (11, Iz v9), (102, AV.bool (decide (v19 < v18)))] [(0, .cells [Iz v0, AV.lst false false (List.map api_Arc.av v1)]), (1, .cells (List.map (AV.int .i64) (v10.set (v13).toNat (IntKind.wrap .i64 (v17 + 1))))), (3, .cells (List.map (AV.int .i64) (v11 ++ ([v14.To] : List Int))))] 4 (by simp [-List.reduceReplicate, sOf_set, ofI_set, allU8_set, F18] <;> omega) (by simp [-List.reduceReplicate, sOf_set, ofI_set, allU8_set, F18]) ?_
        by_cases h41 : v19 < v18
        ·replace hF := ite_t h41 hF
         have h41_ := h41
         try simp [-List.reduceReplicate] at h41_
         have F19 := And.intro F18 (And.intro h41 h41_)
         refine CT (by simp [-List.reduceReplicate, sOf_set, ofI_set, allU8_set, F19] <;> omega) ?_
         refine SQ [] [none] fun _ _ g r => ?_
         try simp [-List.reduceReplicate, sOf_set, ofI_set, allU8_set, F19]
         and_intros <;> first | exact g _ (by kernel_rfl) | refine r _ _ _ ?_ | omega | (simp [-List.reduceReplicate, sOf_set, ofI_set, allU8_set, maxLen, F19] <;> omega)
         refine WK [(6, AV.bool false)] [] 4 (by simp [-List.reduceReplicate, sOf_set, ofI_set, allU8_set, F19]) (by simp [-List.reduceReplicate, sOf_set, ofI_set, allU8_set, F19]) ?_
         simp only [Option.some.injEq] at hF
         subst hF
         refine AW.ret (hQ _ _ _ ?_ (matchO_0 ?_)).1
         ·simp [Try.f41, F19]
         ·simp [F19]
        ·replace hF := ite_f h41 hF
         have h41_ := h41
         try simp [-List.reduceReplicate] at h41_
         have F20 := And.intro F18 (And.intro h41 h41_)
         refine CF (by simp [-List.reduceReplicate, sOf_set, ofI_set, allU8_set, F20] <;> omega) ?_
         refine AW.skip ?_
         refine hK48681 _ _ _ ?_
         refine RG [] [none, none, none] fun _ _ g r => ?_
         try simp [-List.reduceReplicate, sOf_set, ofI_set, allU8_set, F20]
         and_intros <;> first | exact g _ (by kernel_rfl) | refine r _ _ _ ?_ | omega | (simp [-List.reduceReplicate, sOf_set, ofI_set, allU8_set, maxLen, F20] <;> omega)
         refine hK48585 _ _ _ ?_
         refine RN h0 [(0, 0), (1, 1), (2, 3)] [(1, Lz v2), (2, AV.lst false false (List.map (sl (AV.int .i64)) v3)), (3, AV.ptr 0 0), (7, AV.slc 1 0 1 ((v10.set (v13).toNat (IntKind.wrap .i64 (v17 + 1))).length) true), (8, Iz v6), (9, Iz v14.To), (10, AV.slc 2 0 1 ((v11 ++ ([v14.To] : List Int)).length) false), (11, Iz (IntKind.wrap .i64 (v9 + 1)))] [(0, .cells [Iz v0, AV.lst false false (List.map api_Arc.av v1)]), (1, .cells (List.map (AV.int .i64) (v10.set (v13).toNat (IntKind.wrap .i64 (v17 + 1))))), (2, .cells (List.map (AV.int .i64) (v11 ++ ([v14.To] : List Int))))] 3 (by simp [-List.reduceReplicate, sOf_set, ofI_set, allU8_set, F20] <;> omega) (by simp [-List.reduceReplicate, sOf_set, ofI_set, allU8_set, F20]) ?_
         exact NX (k' := n2) ((v14.To, IntKind.wrap .i64 (v9 + 1), v10.set (v13).toNat (IntKind.wrap .i64 (v17 + 1)), v11 ++ ([v14.To] : List Int))) hF (by simp [-List.reduceReplicate, sOf_set, ofI_set, allU8_set, F20]) (by simp [-List.reduceReplicate, sOf_set, ofI_set, allU8_set, F20])
   ·replace hF := ite_f h8 hF
    have h8_ := h8
    try simp [-List.reduceReplicate] at h8_
    have F21 := And.intro F4 (And.intro h8 h8_)
    refine CF (by simp [-List.reduceReplicate, sOf_set, ofI_set, allU8_set, F21] <;> omega) ?_
    refine AW.exit ?_
    try simp [-List.reduceReplicate]
    refine hK48016 _ _ _ ?_
    refine SQ [] [none, none] fun _ _ g r => ?_
    try simp [-List.reduceReplicate, sOf_set, ofI_set, allU8_set, F21]
    and_intros <;> first | exact g _ (by kernel_rfl) | refine r _ _ _ ?_ | omega | (simp [-List.reduceReplicate, sOf_set, ofI_set, allU8_set, maxLen, F21] <;> omega)
    refine WK [(1, Lz v2), (2, AV.lst false false (List.map (sl (AV.int .i64)) v3)), (3, AV.ptr 0 0), (7, AV.slc 1 0 1 v10.length true), (8, Iz v6), (104, AV.bool (v8 != 1))] [(0, .cells [Iz v0, AV.lst false false (List.map api_Arc.av v1)]), (1, .cells (List.map (AV.int .i64) v10))] 3 (by simp [-List.reduceReplicate, sOf_set, ofI_set, allU8_set, F21]) (by simp [-List.reduceReplicate, sOf_set, ofI_set, allU8_set, F21]) ?_
    by_cases h42 : v8 ≠ 1
    ·replace hF := ite_t h42 hF
     have h42_ := eqb_f h42
     have h42__ := neb_t h42
     have F22 := And.intro F21 (And.intro h42 (And.intro h42_ h42__))
     refine CT (by simp [-List.reduceReplicate, sOf_set, ofI_set, allU8_set, F22] <;> omega) ?_
     refine SQ [] [none] fun _ _ g r => ?_
     try simp [-List.reduceReplicate, sOf_set, ofI_set, allU8_set, F22]
     and_intros <;> first | exact g _ (by kernel_rfl) | refine r _ _ _ ?_ | omega | (simp [-List.reduceReplicate, sOf_set, ofI_set, allU8_set, maxLen, F22] <;> omega)
     refine WK [(6, AV.bool false)] [] 3 (by simp [-List.reduceReplicate, sOf_set, ofI_set, allU8_set, F22]) (by simp [-List.reduceReplicate, sOf_set, ofI_set, allU8_set, F22]) ?_
     simp only [Option.some.injEq] at hF
     subst hF
     refine AW.ret (hQ _ _ _ ?_ (matchO_0 ?_)).1
     ·simp [Try.f41, F22]
     ·simp [F22]
    ·replace hF := ite_f h42 hF
     have h42q : v8 = 1 := Classical.not_not.1 h42
     have h42_ := eqb_t h42q
     have h42__ := neb_f h42q
     have F23 := And.intro F21 (And.intro h42_ (And.intro h42__ h42q))
     refine CF (by simp [-List.reduceReplicate, sOf_set, ofI_set, allU8_set, F23] <;> omega) ?_
     refine AW.skip ?_
     refine hK47255 _ _ _ ?_
     refine RG [] [none, none, none] fun _ _ g r => ?_
     try simp [-List.reduceReplicate, sOf_set, ofI_set, allU8_set, F23]
     and_intros <;> first | exact g _ (by kernel_rfl) | refine r _ _ _ ?_ | omega | (simp [-List.reduceReplicate, sOf_set, ofI_set, allU8_set, maxLen, F23] <;> omega)
     refine hK45730 _ _ _ ?_
     refine RN h0 [(0, 0), (1, 1)] [(1, Lz v2), (2, AV.lst false false (List.map (sl (AV.int .i64)) v3)), (3, AV.ptr 0 0), (7, AV.slc 1 0 1 v10.length true), (8, Iz (IntKind.wrap .i64 (v6 + 1)))] [(0, .cells [Iz v0, AV.lst false false (List.map api_Arc.av v1)]), (1, .cells (List.map (AV.int .i64) v10))] 2 (by simp [-List.reduceReplicate, sOf_set, ofI_set, allU8_set, F23]) (by simp [-List.reduceReplicate, sOf_set, ofI_set, allU8_set, F23]) ?_
     exact NX (k' := n1) ((IntKind.wrap .i64 (v6 + 1), v10)) hF (by simp [-List.reduceReplicate, sOf_set, ofI_set, allU8_set, F23]) (by simp [-List.reduceReplicate, sOf_set, ofI_set, allU8_set, F23])
  ·replace hF := ite_f h4 hF
   have h4_ := h4
   try simp [-List.reduceReplicate] at h4_
   have F24 := And.intro F2 (And.intro h4 h4_)
   refine CF (by simp [-List.reduceReplicate, sOf_set, ofI_set, allU8_set, F24] <;> omega) ?_
   refine AW.exit ?_
   try simp [-List.reduceReplicate]
   refine hK36587 _ _ _ ?_
   refine SQ [] [none] fun _ _ g r => ?_
   try simp [-List.reduceReplicate, sOf_set, ofI_set, allU8_set, F24]
   and_intros <;> first | exact g _ (by kernel_rfl) | refine r _ _ _ ?_ | omega | (simp [-List.reduceReplicate, sOf_set, ofI_set, allU8_set, maxLen, F24] <;> omega)
   refine WK [(6, AV.bool true)] [] 2 (by simp [-List.reduceReplicate, sOf_set, ofI_set, allU8_set, F24]) (by simp [-List.reduceReplicate, sOf_set, ofI_set, allU8_set, F24]) ?_
   simp only [Option.some.injEq] at hF
   subst hF
   refine AW.ret (hQ _ _ _ ?_ (matchO_0 ?_)).1
   ·simp [Try.f41, F24]
   ·simp [F24]
theorem w_law15_parts (k : Nat) (v0 : Int) (v1 : (List api_Arc)) (v2 : (List Int)) (v3 : Bool) (hF : law15_parts k v0 v1 v2 = some v3) :
  FCall Try.prog 15 [AV.agg [AV.int .i64 v0, AV.lst false false (List.map api_Arc.av v1)], AV.lst false false (List.map (AV.int .i64) v2)] [] (AV.bool v3) [] := by
 unfold law15_parts at hF
 refine EN Try.func15 ?_
 intro c0 w0 Q h0 hQ
 refine WK [(0, AV.agg [Iz v0, AV.lst false false (List.map api_Arc.av v1)]), (1, Lz v2)] [] 0 (by simp) (by simp) ?_
 refine SQ [] [none, none] fun _ _ g r => ?_
 try simp
 and_intros <;> first | exact g _ (by kernel_rfl) | refine r _ _ _ ?_ | omega | (simp [maxLen] <;> omega)
 refine WK [(1, Lz v2), (2, AV.ptr 0 0)] [(0, .cells [Iz v0, AV.lst false false (List.map api_Arc.av v1)])] 1 (by simp) (by simp) ?_
 refine SQ [] [none, none, none, none, none, none, none, none] fun _ _ g r => ?_
 try simp
 and_intros
 try any_goals first | omega | (simp [maxLen] <;> omega)
 obtain ⟨v4, v5, h1, hF⟩ := bnd2_elim hF
 refine AC (w_flow_Paths k _ _ _ _ _ h1) (.cons (.same (by simp)) (.cons (.same (by simp)) .nil)) ?_
 try simp
 and_intros <;> first | exact g _ (by kernel_rfl) | refine r _ _ _ ?_ | omega | (simp [maxLen] <;> omega)
 refine WK [(1, Lz v2), (2, AV.ptr 0 0), (5, AV.slc 1 0 1 v4.length false), (6, Iz v5)] [(0, .cells [Iz v0, AV.lst false false (List.map api_Arc.av v1)]), (1, .grow (List.map (sl (AV.int .i64)) v4))] 2 (by simp) (by simp) ?_
 refine AW.frz 1 (o := .grow (List.map (sl (AV.int .i64)) v4)) (by simp) rfl [(5, AV.lst false false (List.map (sl (AV.int .i64)) v4))] [] ⟨(.l (by simp) (by simp) (by simp) (by simp)), trivial⟩ trivial ?_
 refine WK [(1, Lz v2), (2, AV.ptr 0 0), (5, AV.lst false false (List.map (sl (AV.int .i64)) v4)), (6, Iz v5)] [(0, .cells [Iz v0, AV.lst false false (List.map api_Arc.av v1)])] 2 (by simp) (by simp) ?_
 refine AW.seq fun K19 hK19 => ?_
 refine AW.block ?_
 refine SQ [] [none, none, none, none] fun _ _ g r => ?_
 try simp
 and_intros
 try any_goals first | omega | (simp [maxLen] <;> omega)
 obtain ⟨v6, h2, hF⟩ := bnd1_elim hF
 refine AC (w_ref15_Check k _ _ _ h2) (.cons (.same (by simp)) .nil) ?_
 try simp
 and_intros <;> first | exact g _ (by kernel_rfl) | refine r _ _ _ ?_ | omega | (simp [maxLen] <;> omega)
 refine WK [(1, Lz v2), (2, AV.ptr 0 0), (5, AV.lst false false (List.map (sl (AV.int .i64)) v4)), (6, Iz v5), (13, AV.bool (v6 != 0))] [(0, .cells [Iz v0, AV.lst false false (List.map api_Arc.av v1)])] 2 (by simp) (by simp) ?_
 by_cases h3 : v6 ≠ 0
 ·replace hF := ite_t h3 hF
  have h3_ := eqb_f h3
  have h3__ := neb_t h3
  refine CT (by simp [h3, h3_, h3__] <;> omega) ?_
  refine SQ [] [none, none, none, some (19, true), some (19, true), some (19, true), none, none] fun _ _ g r => ?_
  by_cases h4 : v5 = 16
  ·replace hF := ite_t h4 hF
   have h4q : v5 = 16 := h4
   have h4_ := eqb_t h4q
   have h4__ := neb_f h4q
   have F1 := And.intro h3 (And.intro h3_ (And.intro h3__ (And.intro h4_ (And.intro h4__ h4q))))
   try simp [F1]
   and_intros <;> first | exact g _ (by kernel_rfl) | refine r _ _ _ ?_ | omega | (simp [maxLen, F1] <;> omega)
   refine WK [(4, AV.bool ((v4.length : Int) == 0))] [] 2 (by simp [F1]) (by simp [F1]) ?_
   simp only [Option.some.injEq] at hF
   subst hF
   refine AW.ret (hQ _ _ _ ?_ (matchO_0 ?_)).1
   ·simp [Try.f15, F1]
   ·simp [F1]
  ·replace hF := ite_f h4 hF
   have h4_ := eqb_f h4
   have h4__ := neb_t h4
   have F2 := And.intro h3 (And.intro h3_ (And.intro h3__ (And.intro h4 (And.intro h4_ h4__))))
   try simp [F2]
   and_intros <;> first | exact g _ (by kernel_rfl) | refine r _ _ _ ?_ | omega | (simp [maxLen, F2] <;> omega)
   refine WK [(4, AV.bool false)] [] 2 (by simp [F2]) (by simp [F2]) ?_
   simp only [Option.some.injEq] at hF
   subst hF
   refine AW.ret (hQ _ _ _ ?_ (matchO_0 ?_)).1
   ·simp [Try.f15, F2]
   ·simp [F2]
 ·replace hF := ite_f h3 hF
  have h3q : v6 = 0 := Classical.not_not.1 h3
  have h3_ := eqb_t h3q
  have h3__ := neb_f h3q
  have F3 := And.intro h3_ (And.intro h3__ h3q)
  refine CF (by simp [F3] <;> omega) ?_
  refine SQ [] [none, none, none, none, none] fun _ _ g r => ?_
  try simp [F3]
  and_intros
  try any_goals first | omega | (simp [maxLen, F3] <;> omega)
  obtain ⟨v7, h5, hF⟩ := bnd1_elim hF
  refine AC (w_ref15_Valid k _ _ _ _ h5) (.cons (.same (by simp [F3])) (.cons (.same (by simp [F3])) .nil)) ?_
  try simp [F3]
  and_intros <;> first | exact g _ (by kernel_rfl) | refine r _ _ _ ?_ | omega | (simp [maxLen, F3] <;> omega)
  refine WK [(1, Lz v2), (2, AV.ptr 0 0), (5, AV.lst false false (List.map (sl (AV.int .i64)) v4)), (6, Iz v5), (24, AV.bool (!v7))] [(0, .cells [Iz v0, AV.lst false false (List.map api_Arc.av v1)])] 2 (by simp [F3]) (by simp [F3]) ?_
  by_cases h6 : (!v7) = true
  ·replace hF := ite_t h6 hF
   have h6_ := h6
   try simp at h6_
   have F4 := And.intro F3 (And.intro h6 h6_)
   refine CT (by simp [F4] <;> omega) ?_
   refine SQ [] [none, none, none, some (31, true), some (31, true), some (31, true), none, none] fun _ _ g r => ?_
   by_cases h7 : v5 = 17
   ·replace hF := ite_t h7 hF
    have h7q : v5 = 17 := h7
    have h7_ := eqb_t h7q
    have h7__ := neb_f h7q
    have F5 := And.intro F4 (And.intro h7_ (And.intro h7__ h7q))
    try simp [F5]
    and_intros <;> first | exact g _ (by kernel_rfl) | refine r _ _ _ ?_ | omega | (simp [maxLen, F5] <;> omega)
    refine WK [(4, AV.bool ((v4.length : Int) == 0))] [] 2 (by simp [F5]) (by simp [F5]) ?_
    simp only [Option.some.injEq] at hF
    subst hF
    refine AW.ret (hQ _ _ _ ?_ (matchO_0 ?_)).1
    ·simp [Try.f15, F5]
    ·simp [F5]
   ·replace hF := ite_f h7 hF
    have h7_ := eqb_f h7
    have h7__ := neb_t h7
    have F6 := And.intro F4 (And.intro h7 (And.intro h7_ h7__))
    try simp [F6]
    and_intros <;> first | exact g _ (by kernel_rfl) | refine r _ _ _ ?_ | omega | (simp [maxLen, F6] <;> omega)
    refine WK [(4, AV.bool false)] [] 2 (by simp [F6]) (by simp [F6]) ?_
    simp only [Option.some.injEq] at hF
    subst hF
    refine AW.ret (hQ _ _ _ ?_ (matchO_0 ?_)).1
    ·simp [Try.f15, F6]
    ·simp [F6]
  ·replace hF := ite_f h6 hF
   have h6_ := h6
   try simp at h6_
   have F7 := And.intro F3 (And.intro h6 h6_)
   refine CF (by simp [F7] <;> omega) ?_
   refine AW.skip ?_
   refine hK19 _ _ _ ?_
   refine SQ [] [none, none, none, some (38, true), some (38, true), some (38, true), some (38, true), none, none] fun _ _ g r => ?_
   by_cases h8 : v5 = 0
   ·replace hF := ite_t h8 hF
    have h8q : v5 = 0 := h8
    have h8_ := eqb_t h8q
    have h8__ := neb_f h8q
    have F8 := And.intro F7 (And.intro h8_ (And.intro h8__ h8q))
    try simp [F8]
    and_intros
    try any_goals first | omega | (simp [maxLen, F8] <;> omega)
    obtain ⟨v8, h9, hF⟩ := bnd1_elim hF
    refine AC (w_ref15_PathsOK k _ _ _ _ _ h9) (.cons (.same (by simp [F8])) (.cons (.same (by simp [F8])) (.cons (.same (by simp [F8])) .nil))) ?_
    try simp [F8]
    and_intros <;> first | exact g _ (by kernel_rfl) | refine r _ _ _ ?_ | omega | (simp [maxLen, F8] <;> omega)
    refine WK [(4, AV.bool v8)] [] 2 (by simp [F8]) (by simp [F8]) ?_
    simp only [Option.some.injEq] at hF
    subst hF
    refine AW.ret (hQ _ _ _ ?_ (matchO_0 ?_)).1
    ·simp [Try.f15, F8]
    ·simp [F8]
   ·replace hF := ite_f h8 hF
    have h8_ := eqb_f h8
    have h8__ := neb_t h8
    have F9 := And.intro F7 (And.intro h8 (And.intro h8_ h8__))
    try simp [F9]
    and_intros <;> first | exact g _ (by kernel_rfl) | refine r _ _ _ ?_ | omega | (simp [maxLen, F9] <;> omega)
    refine WK [(4, AV.bool false)] [] 2 (by simp [F9]) (by simp [F9]) ?_
    simp only [Option.some.injEq] at hF
    subst hF
    refine AW.ret (hQ _ _ _ ?_ (matchO_0 ?_)).1
    ·simp [Try.f15, F9]
    ·simp [F9]
theorem w_law15_FlowRaw (k : Nat) (v0 : Int) (v1 : (List api_Arc)) (v2 : (List Int)) (v3 : Bool) (hF : law15_FlowRaw k v0 v1 v2 = some v3) :
  FCall Try.prog 3 [AV.agg [AV.int .i64 v0, AV.lst false false (List.map api_Arc.av v1)], AV.lst false false (List.map (AV.int .i64) v2)] [] (AV.bool v3) [] := by
 unfold law15_FlowRaw at hF
 refine EN Try.func3 ?_
 intro c0 w0 Q h0 hQ
 refine WK [(0, AV.agg [Iz v0, AV.lst false false (List.map api_Arc.av v1)]), (1, Lz v2)] [] 0 (by simp) (by simp) ?_
 refine SQ [] [none, none] fun _ _ g r => ?_
 try simp
 and_intros <;> first | exact g _ (by kernel_rfl) | refine r _ _ _ ?_ | omega | (simp [maxLen] <;> omega)
 refine WK [(1, Lz v2), (2, AV.ptr 0 0)] [(0, .cells [Iz v0, AV.lst false false (List.map api_Arc.av v1)])] 1 (by simp) (by simp) ?_
 refine AW.seq fun K93 hK93 => ?_
 refine SQ [] [none, none, none, none, none, some (10, false), some (10, false), some (10, false), none] fun _ _ g r => ?_
 by_cases h1 : 40 < (v1.length : Int)
 ·replace hF := ite_t h1 hF
  have h1_ := h1
  try simp at h1_
  try simp [h1, h1_]
  and_intros <;> first | exact g _ (by kernel_rfl) | refine r _ _ _ ?_ | omega | (simp [h1, h1_, maxLen] <;> omega)
  refine WK [(1, Lz v2), (2, AV.ptr 0 0), (14, AV.bool true)] [(0, .cells [Iz v0, AV.lst false false (List.map api_Arc.av v1)])] 1 (by simp [h1, h1_]) (by simp [h1, h1_]) ?_
  refine CT (by simp [h1, h1_]) ?_
  refine SQ [] [none, none] fun _ _ g r => ?_
  try simp [h1, h1_]
  and_intros
  try any_goals first | omega | (simp [h1, h1_, maxLen] <;> omega)
  obtain ⟨v4, h2, hF⟩ := bnd1_elim hF
  refine AC (w_law15_awake k _ h2) .nil ?_
  try simp [h1, h1_]
  and_intros <;> first | exact g _ (by kernel_rfl) | refine r _ _ _ ?_ | omega | (simp [h1, h1_, maxLen] <;> omega)
  refine WK [(4, AV.bool v4)] [] 1 (by simp [h1, h1_]) (by simp [h1, h1_]) ?_
  simp only [Option.some.injEq] at hF
  subst hF
  refine AW.ret (hQ _ _ _ ?_ (matchO_0 ?_)).1
  ·simp [Try.f3, h1, h1_]
  ·simp [h1, h1_]
 ·replace hF := ite_f h1 hF
  have h1_ := h1
  try simp at h1_
  try simp [h1, h1_]
  and_intros <;> first | exact g _ (by kernel_rfl) | refine r _ _ _ ?_ | omega | (simp [h1, h1_, maxLen] <;> omega)
  refine WK [(1, Lz v2), (2, AV.ptr 0 0), (14, AV.bool (decide (60 < (v2.length : Int))))] [(0, .cells [Iz v0, AV.lst false false (List.map api_Arc.av v1)])] 1 (by simp [h1, h1_]) (by simp [h1, h1_]) ?_
  by_cases h3 : 60 < (v2.length : Int)
  ·replace hF := ite_t h3 hF
   have h3_ := h3
   try simp at h3_
   have F1 := And.intro h1 (And.intro h1_ (And.intro h3 h3_))
   refine CT (by simp [F1] <;> omega) ?_
   refine SQ [] [none, none] fun _ _ g r => ?_
   try simp [F1]
   and_intros
   try any_goals first | omega | (simp [maxLen, F1] <;> omega)
   obtain ⟨v5, h4, hF⟩ := bnd1_elim hF
   refine AC (w_law15_awake k _ h4) .nil ?_
   try simp [F1]
   and_intros <;> first | exact g _ (by kernel_rfl) | refine r _ _ _ ?_ | omega | (simp [maxLen, F1] <;> omega)
   refine WK [(4, AV.bool v5)] [] 1 (by simp [F1]) (by simp [F1]) ?_
   simp only [Option.some.injEq] at hF
   subst hF
   refine AW.ret (hQ _ _ _ ?_ (matchO_0 ?_)).1
   ·simp [Try.f3, F1]
   ·simp [F1]
  ·replace hF := ite_f h3 hF
   have h3_ := h3
   try simp at h3_
   have F2 := And.intro h1 (And.intro h1_ (And.intro h3 h3_))
   refine CF (by simp [F2] <;> omega) ?_
   refine AW.skip ?_
   refine hK93 _ _ _ ?_
   refine AW.midF (α := Unit) (fun _ => law15_FlowRaw.J1 k v0 v1 v2 = some v3) (fun _ => [(1, Lz v2), (2, AV.ptr 0 0)]) (fun _ => [(0, .cells [Iz v0, AV.lst false false (List.map api_Arc.av v1)])]) 1 (fun K137 hK137 => ?_) ?_
   ·refine SQ [] [none, none, none] fun _ _ g r => ?_
    try simp [F2]
    and_intros
    try any_goals first | omega | (simp [maxLen, F2] <;> omega)
    obtain ⟨v9, h10, hF⟩ := bnd1_elim hF
    refine AC (w_ref15_Check k _ _ _ h10) (.cons (.same (by simp [F2])) .nil) ?_
    try simp [F2]
    and_intros <;> first | exact g _ (by kernel_rfl) | refine r _ _ _ ?_ | omega | (simp [maxLen, F2] <;> omega)
    refine WK [(1, Lz v2), (2, AV.ptr 0 0), (18, AV.bool (v9 == 0))] [(0, .cells [Iz v0, AV.lst false false (List.map api_Arc.av v1)])] 1 (by simp [F2]) (by simp [F2]) ?_
    by_cases h11 : v9 = 0
    ·replace hF := ite_t h11 hF
     have h11q : v9 = 0 := h11
     have h11_ := eqb_t h11q
     have h11__ := neb_f h11q
     have F3 := And.intro F2 (And.intro h11_ (And.intro h11__ h11q))
     refine CT (by simp [F3] <;> omega) ?_
     refine SQ [] [none] fun _ _ g r => ?_
     try simp [F3]
     and_intros <;> first | exact g _ (by kernel_rfl) | refine r _ _ _ ?_ | omega | (simp [maxLen, F3] <;> omega)
     refine WK [(1, Lz v2), (2, AV.ptr 0 0), (5, Iz 0)] [(0, .cells [Iz v0, AV.lst false false (List.map api_Arc.av v1)])] 1 (by simp [F3]) (by simp [F3]) ?_
     refine AW.block ?_
     refine AW.loopF (α := Int) (fun n v10 => law15_FlowRaw.L2 k v0 v1 v2 n v10 = some v3) (fun v10 => [(1, Lz v2), (2, AV.ptr 0 0), (5, Iz v10)]) (fun v10 => [(0, .cells [Iz v0, AV.lst false false (List.map api_Arc.av v1)])]) 1 k (0) hF (by simp [F3]) (by simp [F3]) (by simp) ?_
     rintro (_|n2) v10 hF K167 hK167
     ·try dsimp only at hF
      rw [law15_FlowRaw.L2] at hF; cases hF
     try dsimp only at hF
     rw [law15_FlowRaw.L2] at hF
     refine AW.seq fun K169 hK169 => ?_
     refine SQ [] [none, none, none, none, none, some (23, true), some (23, true), some (23, true), some (23, true), some (23, true), none] fun _ _ g r => ?_
     by_cases h12 : v10 < (v2.length : Int)
     ·replace hF := ite_t h12 hF
      have h12_ := h12
      try simp at h12_
      have F4 := And.intro F3 (And.intro h12 h12_)
      try simp [F4]
      and_intros <;> first | exact g _ (by kernel_rfl) | refine r _ _ _ ?_ | omega | (simp [maxLen, F4] <;> omega)
      refine WK [(1, Lz v2), (2, AV.ptr 0 0), (5, Iz v10), (29, AV.bool (decide (v10 < (v1.length : Int))))] [(0, .cells [Iz v0, AV.lst false false (List.map api_Arc.av v1)])] 1 (by simp [F4]) (by simp [F4]) ?_
      by_cases h13 : v10 < (v1.length : Int)
      ·replace hF := ite_t h13 hF
       have h13_ := h13
       try simp at h13_
       have F5 := And.intro F4 (And.intro h13 h13_)
       refine CT (by simp [F5] <;> omega) ?_
       refine AW.skip ?_
       refine hK169 _ _ _ ?_
       refine AW.seq fun K173 hK173 => ?_
       refine AW.block ?_
       refine SQ [] [none, none, none, none, none] fun _ _ g r => ?_
       obtain ⟨v11, h14, h15, h16, hF⟩ := idx_elim hF
       have h16_ := get_of h16
       try simp at h16_
       have h15_ := h15
       try simp at h15_
       have F6 := And.intro F5 (And.intro h14 (And.intro h15 (And.intro h16 (And.intro h16_ h15_))))
       try simp [F6]
       and_intros <;> first | exact g _ (by kernel_rfl) | refine r _ _ _ ?_ | omega | (simp [maxLen, F6] <;> omega)
       refine WK [(1, Lz v2), (2, AV.ptr 0 0), (5, Iz v10), (36, AV.bool (decide (200 < v11)))] [(0, .cells [Iz v0, AV.lst false false (List.map api_Arc.av v1)])] 1 (by simp [F6]) (by simp [F6]) ?_
       by_cases h17 : 200 < v11
       ·replace hF := ite_t h17 hF
        have h17_ := h17
        try simp at h17_
        have F7 := And.intro F6 (And.intro h17 h17_)
        refine CT (by simp [F7] <;> omega) ?_
        refine SQ [] [none, none] fun _ _ g r => ?_
        try simp [F7]
        and_intros
        try any_goals first | omega | (simp [maxLen, F7] <;> omega)
        obtain ⟨v12, h18, hF⟩ := bnd1_elim hF
        refine AC (w_law15_awake k _ h18) .nil ?_
        try simp [F7]
        and_intros <;> first | exact g _ (by kernel_rfl) | refine r _ _ _ ?_ | omega | (simp [maxLen, F7] <;> omega)
        refine WK [(4, AV.bool v12)] [] 1 (by simp [F7]) (by simp [F7]) ?_
        simp only [Option.some.injEq] at hF
        subst hF
        refine AW.ret (hQ _ _ _ ?_ (matchO_0 ?_)).1
        ·simp [Try.f3, F7]
        ·simp [F7]
       ·replace hF := ite_f h17 hF
        have h17_ := h17
        try simp at h17_
        have F8 := And.intro F6 (And.intro h17 h17_)
        refine CF (by simp [F8] <;> omega) ?_
        refine AW.skip ?_
        refine hK173 _ _ _ ?_
        refine RG [] [none, none, none] fun _ _ g r => ?_
        try simp [F8]
        and_intros <;> first | exact g _ (by kernel_rfl) | refine r _ _ _ ?_ | omega | (simp [maxLen, F8] <;> omega)
        refine hK167 _ _ _ ?_
        exact NX (k' := n2) (IntKind.wrap .i64 (v10 + 1)) hF (by simp [F8]) (by simp [F8])
      ·replace hF := ite_f h13 hF
       have h13_ := h13
       try simp at h13_
       have F9 := And.intro F4 (And.intro h13 h13_)
       refine CF (by simp [F9] <;> omega) ?_
       refine AW.exit ?_
       try simp
       refine hK137 _ _ _ ?_
       exact JN (()) hF (by simp [F9]) (by simp [F9])
     ·replace hF := ite_f h12 hF
      have h12_ := h12
      try simp at h12_
      have F10 := And.intro F3 (And.intro h12 h12_)
      try simp [F10]
      and_intros <;> first | exact g _ (by kernel_rfl) | refine r _ _ _ ?_ | omega | (simp [maxLen, F10] <;> omega)
      refine WK [(1, Lz v2), (2, AV.ptr 0 0), (5, Iz v10), (29, AV.bool false)] [(0, .cells [Iz v0, AV.lst false false (List.map api_Arc.av v1)])] 1 (by simp [F10]) (by simp [F10]) ?_
      refine CF (by simp [F10]) ?_
      refine AW.exit ?_
      try simp
      refine hK137 _ _ _ ?_
      exact JN (()) hF (by simp [F10]) (by simp [F10])
    ·replace hF := ite_f h11 hF
     have h11_ := eqb_f h11
     have h11__ := neb_t h11
     have F11 := And.intro F2 (And.intro h11 (And.intro h11_ h11__))
     refine CF (by simp [F11] <;> omega) ?_
     refine AW.skip ?_
     refine hK137 _ _ _ ?_
     exact JN (()) hF (by simp [F11]) (by simp [F11])
   ·rintro ⟨⟩ hF
    try dsimp only at hF
    unfold law15_FlowRaw.J1 at hF
    refine SQ [] [none, none, some (39, true), some (39, true), some (39, true), none, none, some (44, true), some (44, true), some (44, true), none, none] fun _ _ g r => ?_
    try simp [F2]
    and_intros
    try any_goals first | omega | (simp [maxLen, F2] <;> omega)
    obtain ⟨v6, h5, hF⟩ := bnd1_elim hF
    refine AC (w_law15_awake k _ h5) .nil ?_
    by_cases h6 : v6 = true
    ·replace hF := ite_t h6 hF
     have h6_ := h6
     try simp at h6_
     have F12 := And.intro F2 (And.intro h6 h6_)
     try simp [F12]
     and_intros
     try any_goals first | omega | (simp [maxLen, F12] <;> omega)
     obtain ⟨v7, h7, hF⟩ := bnd1_elim hF
     refine AC (w_law15_agree k _ _ _ _ h7) (.cons (.same (by simp [F12])) (.cons (.same (by simp [F12])) .nil)) ?_
     by_cases h8 : v7 = true
     ·replace hF := ite_t h8 hF
      have h8_ := h8
      try simp at h8_
      have F13 := And.intro F12 (And.intro h8 h8_)
      try simp [F13]
      and_intros
      try any_goals first | omega | (simp [maxLen, F13] <;> omega)
      obtain ⟨v8, h9, hF⟩ := bnd1_elim hF
      refine AC (w_law15_parts k _ _ _ _ h9) (.cons (.same (by simp [F13])) (.cons (.same (by simp [F13])) .nil)) ?_
      try simp [F13]
      and_intros <;> first | exact g _ (by kernel_rfl) | refine r _ _ _ ?_ | omega | (simp [maxLen, F13] <;> omega)
      refine WK [(4, AV.bool v8)] [] 1 (by simp [F13]) (by simp [F13]) ?_
      simp only [Option.some.injEq] at hF
      subst hF
      refine AW.ret (hQ _ _ _ ?_ (matchO_0 ?_)).1
      ·simp [Try.f3, F13]
      ·simp [F13]
     ·replace hF := ite_f h8 hF
      have h8_ := h8
      try simp at h8_
      have F14 := And.intro F12 (And.intro h8 h8_)
      try simp [F14]
      and_intros <;> first | exact g _ (by kernel_rfl) | refine r _ _ _ ?_ | omega | (simp [maxLen, F14] <;> omega)
      refine WK [(4, AV.bool false)] [] 1 (by simp [F14]) (by simp [F14]) ?_
      simp only [Option.some.injEq] at hF
      subst hF
      refine AW.ret (hQ _ _ _ ?_ (matchO_0 ?_)).1
      ·simp [Try.f3, F14]
      ·simp [F14]
    ·replace hF := ite_f h6 hF
     have h6_ := h6
     try simp at h6_
     have F15 := And.intro F2 (And.intro h6 h6_)
     try simp [F15]
     and_intros <;> first | exact g _ (by kernel_rfl) | refine r _ _ _ ?_ | omega | (simp [maxLen, F15] <;> omega)
     refine WK [(4, AV.bool false)] [] 1 (by simp [F15]) (by simp [F15]) ?_
     simp only [Option.some.injEq] at hF
     subst hF
     refine AW.ret (hQ _ _ _ ?_ (matchO_0 ?_)).1
     ·simp [Try.f3, F15]
     ·simp [F15]
end Go.TF
