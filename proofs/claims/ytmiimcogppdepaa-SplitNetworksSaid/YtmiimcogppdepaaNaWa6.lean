/- Walks: the Go text computes the Lean functions (printed by a program of our own). -/
import Derived.Test.YtmiimcogppdepaaNaPu
import Derived.Test.YtmiimcogppdepaaNaAbsT
import Derived.Test.YtmiimcogppdepaaNaWa0
import Derived.Test.YtmiimcogppdepaaNaWa1
import Derived.Test.YtmiimcogppdepaaNaWa3
import Derived.Test.YtmiimcogppdepaaNaWa4
import Derived.Test.YtmiimcogppdepaaNaWa5
set_option linter.unusedVariables false
set_option linter.unusedSimpArgs false
set_option maxRecDepth 100000
set_option maxHeartbeats 4000000
namespace Go.TF
open Go Go.Abs Go.Proofs Go.Proofs.YtmiimcogppdepaaNaT
theorem w_law14_SplitNetworks (k : Nat) (v0 : (List Int)) (v1 : (List Int)) (v2 : (List Int)) (v3 : (List Int)) (v4 : Int) (v5 : Bool) (hF : law14_SplitNetworks k v0 v1 v2 v3 v4 = some v5) :
  FCall Try.prog 7 [AV.lst false false (List.map (AV.int .i64) v0), AV.lst false false (List.map (AV.int .i64) v1), AV.agg [AV.lst false false (List.map (AV.int .i64) v2), AV.lst false false (List.map (AV.int .i64) v3), AV.int .i64 v4]] [] (AV.bool v5) [] := by
 unfold law14_SplitNetworks at hF
 refine EN Try.func7 ?_
 intro c0 w0 Q h0 hQ
 refine WK [(0, Lz v0), (1, Lz v1), (2, AV.agg [Lz v2, Lz v3, Iz v4])] [] 0 (by simp) (by simp) ?_
 refine SQ [] [none, none] fun _ _ g r => ?_
 try simp
 and_intros <;> first | exact g _ (by kernel_rfl) | refine r _ _ _ ?_ | omega | (simp [maxLen] <;> omega)
 refine WK [(0, Lz v0), (1, Lz v1), (5, AV.ptr 0 0)] [(0, .cells [Lz v2, Lz v3, Iz v4])] 1 (by simp) (by simp) ?_
 refine AW.seq fun K26 hK26 => ?_
 refine SQ [] [none, none, none, none, some (15, false), some (15, false), some (15, false), none, none, some (20, false), some (20, false), some (20, false), some (20, false), none, none, some (26, false), some (26, false), some (26, false), some (26, false), none] fun _ _ g r => ?_
 try simp
 and_intros
 try any_goals first | omega | (simp [maxLen] <;> omega)
 obtain ⟨v6, h1, hF⟩ := bnd1_elim hF
 refine AC (w_made_Light k _ _ h1) (.cons (.same (by simp)) .nil) ?_
 by_cases h2 : (!v6) = true
 ·replace hF := ite_t h2 hF
  have h2_ := h2
  try simp at h2_
  try simp [h2, h2_]
  and_intros <;> first | exact g _ (by kernel_rfl) | refine r _ _ _ ?_ | omega | (simp [h2, h2_, maxLen] <;> omega)
  refine WK [(0, Lz v0), (1, Lz v1), (5, AV.ptr 0 0), (31, AV.bool true)] [(0, .cells [Lz v2, Lz v3, Iz v4])] 1 (by simp [h2, h2_]) (by simp [h2, h2_]) ?_
  refine CT (by simp [h2, h2_]) ?_
  refine SQ [] [none, none] fun _ _ g r => ?_
  try simp [h2, h2_]
  and_intros
  try any_goals first | omega | (simp [h2, h2_, maxLen] <;> omega)
  obtain ⟨v7, h3, hF⟩ := bnd1_elim hF
  refine AC (w_law14_awake k _ h3) .nil ?_
  try simp [h2, h2_]
  and_intros <;> first | exact g _ (by kernel_rfl) | refine r _ _ _ ?_ | omega | (simp [h2, h2_, maxLen] <;> omega)
  refine WK [(6, AV.bool v7)] [] 1 (by simp [h2, h2_]) (by simp [h2, h2_]) ?_
  simp only [Option.some.injEq] at hF
  subst hF
  refine AW.ret (hQ _ _ _ ?_ (matchO_0 ?_)).1
  ·simp [Try.f7, h2, h2_]
  ·simp [h2, h2_]
 ·replace hF := ite_f h2 hF
  have h2_ := h2
  try simp at h2_
  by_cases h4 : 70 < (v1.length : Int)
  ·replace hF := ite_t h4 hF
   have h4_ := h4
   try simp at h4_
   have F1 := And.intro h2 (And.intro h2_ (And.intro h4 h4_))
   try simp [F1]
   and_intros <;> first | exact g _ (by kernel_rfl) | refine r _ _ _ ?_ | omega | (simp [maxLen, F1] <;> omega)
   refine WK [(0, Lz v0), (1, Lz v1), (5, AV.ptr 0 0), (31, AV.bool true)] [(0, .cells [Lz v2, Lz v3, Iz v4])] 1 (by simp [F1]) (by simp [F1]) ?_
   refine CT (by simp [F1]) ?_
   refine SQ [] [none, none] fun _ _ g r => ?_
   try simp [F1]
   and_intros
   try any_goals first | omega | (simp [maxLen, F1] <;> omega)
   obtain ⟨v8, h5, hF⟩ := bnd1_elim hF
   refine AC (w_law14_awake k _ h5) .nil ?_
   try simp [F1]
   and_intros <;> first | exact g _ (by kernel_rfl) | refine r _ _ _ ?_ | omega | (simp [maxLen, F1] <;> omega)
   refine WK [(6, AV.bool v8)] [] 1 (by simp [F1]) (by simp [F1]) ?_
   simp only [Option.some.injEq] at hF
   subst hF
   refine AW.ret (hQ _ _ _ ?_ (matchO_0 ?_)).1
   ·simp [Try.f7, F1]
   ·simp [F1]
  ·replace hF := ite_f h4 hF
   have h4_ := h4
   try simp at h4_
   by_cases h6 : 70 < (v2.length : Int)
   ·replace hF := ite_t h6 hF
    have h6_ := h6
    try simp at h6_
    have F2 := And.intro h2 (And.intro h2_ (And.intro h4 (And.intro h4_ (And.intro h6 h6_))))
    try simp [F2]
    and_intros <;> first | exact g _ (by kernel_rfl) | refine r _ _ _ ?_ | omega | (simp [maxLen, F2] <;> omega)
    refine WK [(0, Lz v0), (1, Lz v1), (5, AV.ptr 0 0), (31, AV.bool true)] [(0, .cells [Lz v2, Lz v3, Iz v4])] 1 (by simp [F2]) (by simp [F2]) ?_
    refine CT (by simp [F2]) ?_
    refine SQ [] [none, none] fun _ _ g r => ?_
    try simp [F2]
    and_intros
    try any_goals first | omega | (simp [maxLen, F2] <;> omega)
    obtain ⟨v9, h7, hF⟩ := bnd1_elim hF
    refine AC (w_law14_awake k _ h7) .nil ?_
    try simp [F2]
    and_intros <;> first | exact g _ (by kernel_rfl) | refine r _ _ _ ?_ | omega | (simp [maxLen, F2] <;> omega)
    refine WK [(6, AV.bool v9)] [] 1 (by simp [F2]) (by simp [F2]) ?_
    simp only [Option.some.injEq] at hF
    subst hF
    refine AW.ret (hQ _ _ _ ?_ (matchO_0 ?_)).1
    ·simp [Try.f7, F2]
    ·simp [F2]
   ·replace hF := ite_f h6 hF
    have h6_ := h6
    try simp at h6_
    have F3 := And.intro h2 (And.intro h2_ (And.intro h4 (And.intro h4_ (And.intro h6 h6_))))
    try simp [F3]
    and_intros <;> first | exact g _ (by kernel_rfl) | refine r _ _ _ ?_ | omega | (simp [maxLen, F3] <;> omega)
    refine WK [(0, Lz v0), (1, Lz v1), (5, AV.ptr 0 0), (31, AV.bool (decide (20 < (v3.length : Int))))] [(0, .cells [Lz v2, Lz v3, Iz v4])] 1 (by simp [F3]) (by simp [F3]) ?_
    by_cases h8 : 20 < (v3.length : Int)
    ·replace hF := ite_t h8 hF
     have h8_ := h8
     try simp at h8_
     have F4 := And.intro F3 (And.intro h8 h8_)
     refine CT (by simp [F4] <;> omega) ?_
     refine SQ [] [none, none] fun _ _ g r => ?_
     try simp [F4]
     and_intros
     try any_goals first | omega | (simp [maxLen, F4] <;> omega)
     obtain ⟨v10, h9, hF⟩ := bnd1_elim hF
     refine AC (w_law14_awake k _ h9) .nil ?_
     try simp [F4]
     and_intros <;> first | exact g _ (by kernel_rfl) | refine r _ _ _ ?_ | omega | (simp [maxLen, F4] <;> omega)
     refine WK [(6, AV.bool v10)] [] 1 (by simp [F4]) (by simp [F4]) ?_
     simp only [Option.some.injEq] at hF
     subst hF
     refine AW.ret (hQ _ _ _ ?_ (matchO_0 ?_)).1
     ·simp [Try.f7, F4]
     ·simp [F4]
    ·replace hF := ite_f h8 hF
     have h8_ := h8
     try simp at h8_
     have F5 := And.intro F3 (And.intro h8 h8_)
     refine CF (by simp [F5] <;> omega) ?_
     refine AW.skip ?_
     refine hK26 _ _ _ ?_
     refine SQ [] [none, none, none] fun _ _ g r => ?_
     try simp [F5]
     and_intros
     try any_goals first | omega | (simp [maxLen, F5] <;> omega)
     obtain ⟨v11, v12, h10, hF⟩ := bnd2_elim hF
     refine AC (w_made_Roll k _ _ _ h10) (.cons (.same (by simp [F5])) .nil) ?_
     try simp [F5]
     and_intros <;> first | exact g _ (by kernel_rfl) | refine r _ _ _ ?_ | omega | (simp [maxLen, F5] <;> omega)
     refine WK [(1, Lz v1), (5, AV.ptr 0 0), (7, AV.ptr 1 0)] [(0, .cells [Lz v2, Lz v3, Iz v4]), (1, .cells [Lz v11, Iz v12])] 2 (by simp [F5]) (by simp [F5]) ?_
     refine SQ [] [none, none, none, none] fun _ _ g r => ?_
     try simp [F5]
     and_intros
     try any_goals first | omega | (simp [maxLen, F5] <;> omega)
     obtain ⟨v13, v14, v15, v16, h11, hF⟩ := bnd4_elim hF
     refine aCall_l (w_made_Dice_Graph_o k _ _ _ _ _ _ h11) (by simp) [1] [] [1] rfl (.cons (.same (by simp [F5])) .nil) (by simp [F5]) (by decide) (by simp) (by simp) (.inl rfl) (by simp) (by simp) ?_
     try simp [F5]
     and_intros <;> first | exact g _ (by kernel_rfl) | refine r _ _ _ ?_ | omega | (simp [maxLen, F5] <;> omega)
     refine WK [(1, Lz v1), (5, AV.ptr 0 0), (7, AV.ptr 1 0), (8, AV.ptr 4 0)] [(0, .cells [Lz v2, Lz v3, Iz v4]), (1, .cells [Lz v11, Iz v16]), (2, .grow (flatA (List.map api_Edge.av v14))), (3, .grow (List.map (AV.int .i64) v15)), (4, .cells [Iz v13, AV.slc 2 0 3 v14.length false, AV.slc 3 0 1 v15.length false])] 5 (by simp [F5]) (by simp [F5]) ?_
     refine AW.frz 2 (o := .grow (flatA (List.map api_Edge.av v14))) (by simp [F5]) rfl [] [(4, .cells [Iz v13, AV.lst false false (List.map api_Edge.av v14), AV.slc 3 0 1 v15.length false])] trivial ⟨⟨by simp, AObj.cells [Iz v13, AV.slc 2 0 3 v14.length false, AV.slc 3 0 1 v15.length false], by simp [F5], (.mk (.cons (.same _) (.cons (.l (by simp) (by simp) (by simp) (by simp)) (.cons (.same _) .nil))))⟩, trivial⟩ ?_
     refine AW.frz 3 (o := .grow (List.map (AV.int .i64) v15)) (by simp [F5]) rfl [] [(4, .cells [Iz v13, AV.lst false false (List.map api_Edge.av v14), Lz v15])] trivial ⟨⟨by simp, AObj.cells [Iz v13, AV.lst false false (List.map api_Edge.av v14), AV.slc 3 0 1 v15.length false], by simp [F5], (.mk (.cons (.same _) (.cons (.same _) (.cons (.l (by simp) (by simp) (by simp) (by simp)) .nil))))⟩, trivial⟩ ?_
     refine WK [(1, Lz v1), (5, AV.ptr 0 0), (7, AV.ptr 1 0), (8, AV.ptr 4 0)] [(0, .cells [Lz v2, Lz v3, Iz v4]), (1, .cells [Lz v11, Iz v16]), (4, .cells [Iz v13, AV.lst false false (List.map api_Edge.av v14), Lz v15])] 5 (by simp [F5]) (by simp [F5]) ?_
     refine SQ [] [none, none, none, none, none] fun _ _ g r => ?_
     try simp [F5]
     and_intros
     try any_goals first | omega | (simp [maxLen, F5] <;> omega)
     obtain ⟨v17, v18, v19, v20, h12, hF⟩ := bnd4_elim hF
     refine aCall_l (w_made_Dice_Policy k _ _ _ _ _ _ _ _ _ h12) (by simp) [1] [] [1] rfl (.cons (.same (by simp [F5])) (.cons (.same (by simp [F5])) .nil)) (by simp [F5]) (by decide) (by simp) (by simp) (.inl rfl) (by simp) (by simp) ?_
     try simp [F5]
     and_intros <;> first | exact g _ (by kernel_rfl) | refine r _ _ _ ?_ | omega | (simp [maxLen, F5] <;> omega)
     refine WK [(1, Lz v1), (5, AV.ptr 0 0), (7, AV.ptr 1 0), (8, AV.ptr 4 0), (9, AV.ptr 6 0)] [(0, .cells [Lz v2, Lz v3, Iz v4]), (1, .cells [Lz v11, Iz v20]), (4, .cells [Iz v13, AV.lst false false (List.map api_Edge.av v14), Lz v15]), (5, .grow (List.map (AV.int .i64) v18)), (6, .cells [Lz v17, AV.slc 5 0 1 v18.length false, Iz v19])] 7 (by simp [F5]) (by simp [F5]) ?_
     refine AW.frz 5 (o := .grow (List.map (AV.int .i64) v18)) (by simp [F5]) rfl [] [(6, .cells [Lz v17, Lz v18, Iz v19])] trivial ⟨⟨by simp, AObj.cells [Lz v17, AV.slc 5 0 1 v18.length false, Iz v19], by simp [F5], (.mk (.cons (.same _) (.cons (.l (by simp) (by simp) (by simp) (by simp)) (.cons (.same _) .nil))))⟩, trivial⟩ ?_
     refine WK [(1, Lz v1), (5, AV.ptr 0 0), (7, AV.ptr 1 0), (8, AV.ptr 4 0), (9, AV.ptr 6 0)] [(0, .cells [Lz v2, Lz v3, Iz v4]), (1, .cells [Lz v11, Iz v20]), (4, .cells [Iz v13, AV.lst false false (List.map api_Edge.av v14), Lz v15]), (6, .cells [Lz v17, Lz v18, Iz v19])] 7 (by simp [F5]) (by simp [F5]) ?_
     refine SQ [] [none, none, none, none] fun _ _ g r => ?_
     try simp [F5]
     and_intros
     try any_goals first | omega | (simp [maxLen, F5] <;> omega)
     obtain ⟨v21, v22, v23, h13, hF⟩ := bnd3_elim hF
     refine AC (w_ref11_Copy_o k _ _ _ _ _ _ h13) (.cons (.same (by simp [F5])) .nil) ?_
     try simp [F5]
     and_intros <;> first | exact g _ (by kernel_rfl) | refine r _ _ _ ?_ | omega | (simp [maxLen, F5] <;> omega)
     refine WK [(1, Lz v1), (5, AV.ptr 0 0), (7, AV.ptr 1 0), (8, AV.ptr 4 0), (9, AV.ptr 6 0), (10, AV.ptr 9 0)] [(0, .cells [Lz v2, Lz v3, Iz v4]), (1, .cells [Lz v11, Iz v20]), (4, .cells [Iz v13, AV.lst false false (List.map api_Edge.av v14), Lz v15]), (6, .cells [Lz v17, Lz v18, Iz v19]), (7, .grow (flatA (List.map api_Edge.av v22))), (8, .grow (List.map (AV.int .i64) v23)), (9, .cells [Iz v21, AV.slc 7 0 3 v22.length false, AV.slc 8 0 1 v23.length false])] 10 (by simp [F5]) (by simp [F5]) ?_
     refine AW.frz 7 (o := .grow (flatA (List.map api_Edge.av v22))) (by simp [F5]) rfl [] [(9, .cells [Iz v21, AV.lst false false (List.map api_Edge.av v22), AV.slc 8 0 1 v23.length false])] trivial ⟨⟨by simp, AObj.cells [Iz v21, AV.slc 7 0 3 v22.length false, AV.slc 8 0 1 v23.length false], by simp [F5], (.mk (.cons (.same _) (.cons (.l (by simp) (by simp) (by simp) (by simp)) (.cons (.same _) .nil))))⟩, trivial⟩ ?_
     refine AW.frz 8 (o := .grow (List.map (AV.int .i64) v23)) (by simp [F5]) rfl [] [(9, .cells [Iz v21, AV.lst false false (List.map api_Edge.av v22), Lz v23])] trivial ⟨⟨by simp, AObj.cells [Iz v21, AV.lst false false (List.map api_Edge.av v22), AV.slc 8 0 1 v23.length false], by simp [F5], (.mk (.cons (.same _) (.cons (.same _) (.cons (.l (by simp) (by simp) (by simp) (by simp)) .nil))))⟩, trivial⟩ ?_
     refine WK [(1, Lz v1), (5, AV.ptr 0 0), (7, AV.ptr 1 0), (8, AV.ptr 4 0), (9, AV.ptr 6 0), (10, AV.ptr 9 0)] [(0, .cells [Lz v2, Lz v3, Iz v4]), (1, .cells [Lz v11, Iz v20]), (4, .cells [Iz v13, AV.lst false false (List.map api_Edge.av v14), Lz v15]), (6, .cells [Lz v17, Lz v18, Iz v19]), (9, .cells [Iz v21, AV.lst false false (List.map api_Edge.av v22), Lz v23])] 10 (by simp [F5]) (by simp [F5]) ?_
     refine SQ [] [none, none] fun _ _ g r => ?_
     try simp [F5]
     and_intros <;> first | exact g _ (by kernel_rfl) | refine r _ _ _ ?_ | omega | (simp [maxLen, F5] <;> omega)
     refine WK [(1, Lz v1), (5, AV.ptr 0 0), (7, AV.ptr 1 0), (8, AV.ptr 4 0), (9, AV.ptr 6 0), (10, AV.ptr 9 0)] [(0, .cells [Lz v2, Lz v3, Iz v4]), (1, .cells [Lz v11, Iz v20]), (4, .cells [Iz v13, AV.lst false false (List.map api_Edge.av v14), Lz v15]), (6, .cells [Lz v17, Lz v18, Iz v19]), (9, .cells [Iz 64, AV.lst false false (List.map api_Edge.av v22), Lz v23])] 10 (by simp [F5]) (by simp [F5]) ?_
     refine SQ [] [none, none, none, none] fun _ _ g r => ?_
     try simp [F5]
     and_intros
     try any_goals first | omega | (simp [maxLen, F5] <;> omega)
     obtain ⟨v24, h14, hF⟩ := bnd1_elim hF
     refine AC (w_made_Mod k _ _ _ h14) (.cons (.same (by simp [F5])) (.cons (.same (by simp [F5])) .nil)) ?_
     try simp [F5]
     and_intros <;> first | exact g _ (by kernel_rfl) | refine r _ _ _ ?_ | omega | (simp [maxLen, F5] <;> omega)
     refine WK [(1, Lz v1), (5, AV.ptr 0 0), (7, AV.ptr 1 0), (8, AV.ptr 4 0), (9, AV.ptr 6 0), (10, AV.ptr 9 0), (11, Iz v24)] [(0, .cells [Lz v2, Lz v3, Iz v4]), (1, .cells [Lz v11, Iz v20]), (4, .cells [Iz v13, AV.lst false false (List.map api_Edge.av v14), Lz v15]), (6, .cells [Lz v17, Lz v18, Iz v19]), (9, .cells [Iz 64, AV.lst false false (List.map api_Edge.av v22), Lz v23])] 10 (by simp [F5]) (by simp [F5]) ?_
     refine SQ [] [none, none, some (47, true), some (47, true), some (47, true), some (47, true), some (47, true), some (47, true), some (47, true), none, none, some (56, true), some (56, true), some (56, true), some (56, true), none, none, some (62, true), some (62, true), some (62, true), some (62, true), some (62, true), some (62, true), some (62, true), none, none, some (71, true), some (71, true), some (71, true), some (71, true), none, none, some (77, true), some (77, true), some (77, true), some (77, true), some (77, true), none, none, some (84, true), some (84, true), some (84, true), some (84, true), some (84, true), none, none] fun _ _ g r => ?_
     try simp [F5]
     and_intros
     try any_goals first | omega | (simp [maxLen, F5] <;> omega)
     obtain ⟨v25, h15, hF⟩ := bnd1_elim hF
     refine AC (w_law14_awake k _ h15) .nil ?_
     by_cases h16 : v25 = true
     ·replace hF := ite_t h16 hF
      have h16_ := h16
      try simp at h16_
      have F6 := And.intro F5 (And.intro h16 h16_)
      try simp [F6]
      and_intros
      try any_goals first | omega | (simp [maxLen, F6] <;> omega)
      obtain ⟨v26, v27, h17, hF⟩ := bnd2_elim hF
      refine aCall_l (w_made_Dice_Some k _ _ _ _ _ h17) (by simp) [1] [] [1] rfl (.cons (.same (by simp [F6])) (.cons (.same (by simp [F6])) .nil)) (by simp [F6]) (by decide) (by simp) (by simp) (.inl rfl) (by simp) (by simp) ?_
      try simp [F6]
      and_intros
      try any_goals first | omega | (simp [maxLen, F6] <;> omega)
      obtain ⟨v28, h18, hF⟩ := bnd1_elim hF
      refine aCall_l (w_law14_agree k _ _ _ _ _ _ _ _ h18) (by simp) [] [10] [] rfl (.cons (.same (by simp [F6])) (.cons (.same (by simp [F6])) (.cons (Coe.l (o := .grow (List.map (AV.int .i64) v26)) (by simp [F6]) rfl (by simp [F6]) (by simp [noIdsL]) (by simp [F6]) (by simp [F6])) .nil))) (by simp [F6]) (by decide) (by simp) (by simp) (.inr ⟨by simp, by simp⟩) (by simp) (by simp) ?_
      by_cases h19 : v28 = true
      ·replace hF := ite_t h19 hF
       have h19_ := h19
       try simp at h19_
       have F7 := And.intro F6 (And.intro h19 h19_)
       try simp [F7]
       and_intros
       try any_goals first | omega | (simp [maxLen, F7] <;> omega)
       obtain ⟨v29, h20, hF⟩ := bnd1_elim hF
       refine AC (w_law14_agree k _ _ _ _ _ _ _ _ h20) (.cons (.same (by simp [F7])) (.cons (.same (by simp [F7])) (.cons (.same (by simp [F7])) .nil))) ?_
       by_cases h21 : v29 = true
       ·replace hF := ite_t h21 hF
        have h21_ := h21
        try simp at h21_
        have F8 := And.intro F7 (And.intro h21 h21_)
        try simp [F8]
        and_intros
        try any_goals first | omega | (simp [maxLen, F8] <;> omega)
        obtain ⟨v30, v31, h22, hF⟩ := bnd2_elim hF
        refine aCall_l (w_made_Dice_Some k _ _ _ _ _ h22) (by simp) [1] [] [1] rfl (.cons (.same (by simp [F8])) (.cons (.same (by simp [F8])) .nil)) (by simp [F8]) (by decide) (by simp) (by simp) (.inl rfl) (by simp) (by simp) ?_
        try simp [F8]
        and_intros
        try any_goals first | omega | (simp [maxLen, F8] <;> omega)
        obtain ⟨v32, h23, hF⟩ := bnd1_elim hF
        refine aCall_l (w_law14_agree k _ _ _ _ _ _ _ _ h23) (by simp) [] [11] [] rfl (.cons (.same (by simp [F8])) (.cons (.same (by simp [F8])) (.cons (Coe.l (o := .grow (List.map (AV.int .i64) v30)) (by simp [F8]) rfl (by simp [F8]) (by simp [noIdsL]) (by simp [F8]) (by simp [F8])) .nil))) (by simp [F8]) (by decide) (by simp) (by simp) (.inr ⟨by simp, by simp⟩) (by simp) (by simp) ?_
        by_cases h24 : v32 = true
        ·replace hF := ite_t h24 hF
         have h24_ := h24
         try simp at h24_
         have F9 := And.intro F8 (And.intro h24 h24_)
         try simp [F9]
         and_intros
         try any_goals first | omega | (simp [maxLen, F9] <;> omega)
         obtain ⟨v33, h25, hF⟩ := bnd1_elim hF
         refine AC (w_law14_agree k _ _ _ _ _ _ _ _ h25) (.cons (.same (by simp [F9])) (.cons (.same (by simp [F9])) (.cons (.same (by simp [F9])) .nil))) ?_
         by_cases h26 : v33 = true
         ·replace hF := ite_t h26 hF
          have h26_ := h26
          try simp at h26_
          have F10 := And.intro F9 (And.intro h26 h26_)
          try simp [F10]
          and_intros
          try any_goals first | omega | (simp [maxLen, F10] <;> omega)
          obtain ⟨v34, h27, hF⟩ := bnd1_elim hF
          refine AC (w_split_Entry k _ _ h27) (.cons (.same (by simp [F10])) .nil) ?_
          try simp [F10]
          and_intros
          try any_goals first | omega | (simp [maxLen, F10] <;> omega)
          obtain ⟨v35, h28, hF⟩ := bnd1_elim hF
          refine AC (w_ref14_Entry k _ _ h28) (.cons (.same (by simp [F10])) .nil) ?_
          by_cases h29 : v34 = v35
          ·replace hF := ite_t h29 hF
           have h29q : v34 = v35 := h29
           have h29_ := eqb_t h29q
           have h29__ := neb_f h29q
           have F11 := And.intro F10 (And.intro h29_ h29__)
           try simp [F11]
           and_intros
           try any_goals first | omega | (simp [maxLen, F11] <;> omega)
           obtain ⟨v36, h30, hF⟩ := bnd1_elim hF
           refine AC (w_split_Exit k _ _ h30) (.cons (.same (by simp [F11])) .nil) ?_
           try simp [F11]
           and_intros
           try any_goals first | omega | (simp [maxLen, F11] <;> omega)
           obtain ⟨v37, h31, hF⟩ := bnd1_elim hF
           refine AC (w_ref14_Exit k _ _ h31) (.cons (.same (by simp [F11])) .nil) ?_
           try simp [F11]
           and_intros <;> first | exact g _ (by kernel_rfl) | refine r _ _ _ ?_ | omega | (simp [maxLen, F11] <;> omega)
           refine WK [(6, AV.bool (v36 == v37))] [] 12 (by simp [F11]) (by simp [F11]) ?_
           simp only [Option.some.injEq] at hF
           subst hF
           refine AW.ret (hQ _ _ _ ?_ (matchO_0 ?_)).1
           ·simp [Try.f7, F11]
           ·simp [F11]
          ·replace hF := ite_f h29 hF
           have h29_ := eqb_f h29
           have h29__ := neb_t h29
           have F12 := And.intro F10 (And.intro h29 (And.intro h29_ h29__))
           try simp [F12]
           and_intros <;> first | exact g _ (by kernel_rfl) | refine r _ _ _ ?_ | omega | (simp [maxLen, F12] <;> omega)
           refine WK [(6, AV.bool false)] [] 12 (by simp [F12]) (by simp [F12]) ?_
           simp only [Option.some.injEq] at hF
           subst hF
           refine AW.ret (hQ _ _ _ ?_ (matchO_0 ?_)).1
           ·simp [Try.f7, F12]
           ·simp [F12]
         ·replace hF := ite_f h26 hF
          have h26_ := h26
          try simp at h26_
          have F13 := And.intro F9 (And.intro h26 h26_)
          try simp [F13]
          and_intros <;> first | exact g _ (by kernel_rfl) | refine r _ _ _ ?_ | omega | (simp [maxLen, F13] <;> omega)
          refine WK [(6, AV.bool false)] [] 12 (by simp [F13]) (by simp [F13]) ?_
          simp only [Option.some.injEq] at hF
          subst hF
          refine AW.ret (hQ _ _ _ ?_ (matchO_0 ?_)).1
          ·simp [Try.f7, F13]
          ·simp [F13]
        ·replace hF := ite_f h24 hF
         have h24_ := h24
         try simp at h24_
         have F14 := And.intro F8 (And.intro h24 h24_)
         try simp [F14]
         and_intros <;> first | exact g _ (by kernel_rfl) | refine r _ _ _ ?_ | omega | (simp [maxLen, F14] <;> omega)
         refine WK [(6, AV.bool false)] [] 12 (by simp [F14]) (by simp [F14]) ?_
         simp only [Option.some.injEq] at hF
         subst hF
         refine AW.ret (hQ _ _ _ ?_ (matchO_0 ?_)).1
         ·simp [Try.f7, F14]
         ·simp [F14]
       ·replace hF := ite_f h21 hF
        have h21_ := h21
        try simp at h21_
        have F15 := And.intro F7 (And.intro h21 h21_)
        try simp [F15]
        and_intros <;> first | exact g _ (by kernel_rfl) | refine r _ _ _ ?_ | omega | (simp [maxLen, F15] <;> omega)
        refine WK [(6, AV.bool false)] [] 11 (by simp [F15]) (by simp [F15]) ?_
        simp only [Option.some.injEq] at hF
        subst hF
        refine AW.ret (hQ _ _ _ ?_ (matchO_0 ?_)).1
        ·simp [Try.f7, F15]
        ·simp [F15]
      ·replace hF := ite_f h19 hF
       have h19_ := h19
       try simp at h19_
       have F16 := And.intro F6 (And.intro h19 h19_)
       try simp [F16]
       and_intros <;> first | exact g _ (by kernel_rfl) | refine r _ _ _ ?_ | omega | (simp [maxLen, F16] <;> omega)
       refine WK [(6, AV.bool false)] [] 11 (by simp [F16]) (by simp [F16]) ?_
       simp only [Option.some.injEq] at hF
       subst hF
       refine AW.ret (hQ _ _ _ ?_ (matchO_0 ?_)).1
       ·simp [Try.f7, F16]
       ·simp [F16]
     ·replace hF := ite_f h16 hF
      have h16_ := h16
      try simp at h16_
      have F17 := And.intro F5 (And.intro h16 h16_)
      try simp [F17]
      and_intros <;> first | exact g _ (by kernel_rfl) | refine r _ _ _ ?_ | omega | (simp [maxLen, F17] <;> omega)
      refine WK [(6, AV.bool false)] [] 10 (by simp [F17]) (by simp [F17]) ?_
      simp only [Option.some.injEq] at hF
      subst hF
      refine AW.ret (hQ _ _ _ ?_ (matchO_0 ?_)).1
      ·simp [Try.f7, F17]
      ·simp [F17]
end Go.TF
