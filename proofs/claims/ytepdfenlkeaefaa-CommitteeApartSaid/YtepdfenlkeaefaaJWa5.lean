/- Walks: the Go text computes the Lean functions (printed by a program of our own). -/
import Derived.Test.YtepdfenlkeaefaaJPu
import Derived.Test.YtepdfenlkeaefaaJAbsT
import Derived.Test.YtepdfenlkeaefaaJWa0
import Derived.Test.YtepdfenlkeaefaaJWa1
import Derived.Test.YtepdfenlkeaefaaJWa2
import Derived.Test.YtepdfenlkeaefaaJWa4
set_option linter.unusedVariables false
set_option linter.unusedSimpArgs false
set_option maxRecDepth 100000
namespace Go.TF
open Go Go.Abs Go.Proofs Go.Proofs.YtepdfenlkeaefaaJT
set_option maxHeartbeats 4000000 in
theorem w_law26_CommitteeApart (k : Nat) (v0 : (List Int)) (v1 : ByteArray) (v2 : Bool) (hF : law26_CommitteeApart k v0 v1 = some v2) :
  FCall Try.prog 11 [AV.lst false false (List.map (AV.int .i64) v0), AV.str v1] [] (AV.bool v2) [] := by
 unfold law26_CommitteeApart at hF
 refine FCall.enter Try.func11 rfl (by simp) (by decide) (by simp) (by simp) (by simp) (by simp) (by simp) ?_
 intro c0 w0 Q h0 hQ
 refine AW.wk [(0, AV.lst false false (List.map (AV.int .i64) v0)), (1, AV.str v1)] [] 0 (by simp [-List.reduceReplicate, sOf_set, ofI_set, allU8_set]) (by simp [-List.reduceReplicate, sOf_set, ofI_set, allU8_set]) (by simp) ?_
 refine AW.seqR mixed [] [none] (by kernel_rfl) fun G256 R256 hG256 hR256 => ?_
 try simp [-List.reduceReplicate, sOf_set, ofI_set, allU8_set]
 repeat' apply And.intro
 any_goals (first | exact hG256 _ (by kernel_rfl) | refine hR256 _ _ _ ?_ | omega | (unfold maxLen; omega) | (simp [-List.reduceReplicate, sOf_set, ofI_set, allU8_set]; done) | (simp [-List.reduceReplicate, sOf_set, ofI_set, allU8_set]; omega))
 refine AW.wk [(0, AV.lst false false (List.map (AV.int .i64) v0)), (1, AV.str v1)] [] 0 (by simp [-List.reduceReplicate, sOf_set, ofI_set, allU8_set]) (by simp [-List.reduceReplicate, sOf_set, ofI_set, allU8_set]) (by simp) ?_
 refine AW.seq fun K260 hK260 => ?_
 refine AW.seqR mixed [] [none, none, none, none, some (21, false), some (21, false), some (21, false), none] (by kernel_rfl) fun G261 R261 hG261 hR261 => ?_
 try simp [-List.reduceReplicate, sOf_set, ofI_set, allU8_set]
 repeat' apply And.intro
 try any_goals (first | omega | (unfold maxLen; omega) | (simp [-List.reduceReplicate, sOf_set, ofI_set, allU8_set]; done))
 obtain ⟨v3, h1, hF⟩ := bnd1_elim hF
 refine aCall_l (w_mill_Light k _ _ h1) (by simp) [] [] [] rfl (.cons (.same (by simp)) .nil) (by simp [-List.reduceReplicate, sOf_set, ofI_set, allU8_set]) (by decide) (by simp) (by simp) (.inl rfl) (by simp) (by simp) ?_
 by_cases h2 : (!v3) = true
 ·replace hF := ite_t h2 hF
  have h2_ := h2
  try simp [-List.reduceReplicate] at h2_
  try simp [-List.reduceReplicate, sOf_set, ofI_set, allU8_set, h2, h2_]
  repeat' apply And.intro
  any_goals (first | exact hG261 _ (by kernel_rfl) | refine hR261 _ _ _ ?_ | omega | (unfold maxLen; omega) | (simp [-List.reduceReplicate, sOf_set, ofI_set, allU8_set, h2, h2_]; done) | (simp [-List.reduceReplicate, sOf_set, ofI_set, allU8_set, h2, h2_]; omega))
  refine AW.wk [(0, AV.lst false false (List.map (AV.int .i64) v0)), (1, AV.str v1), (25, AV.bool true)] [] 0 (by simp [-List.reduceReplicate, sOf_set, ofI_set, allU8_set, h2, h2_]) (by simp [-List.reduceReplicate, sOf_set, ofI_set, allU8_set, h2, h2_]) (by simp) ?_
  refine AW.condT (by decide) (by simp [-List.reduceReplicate, sOf_set, ofI_set, allU8_set, h2, h2_]) ?_
  refine AW.seqR mixed [] [none, none] (by kernel_rfl) fun G262 R262 hG262 hR262 => ?_
  try simp [-List.reduceReplicate, sOf_set, ofI_set, allU8_set, h2, h2_]
  repeat' apply And.intro
  try any_goals (first | omega | (unfold maxLen; omega) | (simp [-List.reduceReplicate, sOf_set, ofI_set, allU8_set, h2, h2_]; done))
  obtain ⟨v4, h3, hF⟩ := bnd1_elim hF
  refine aCall_l (w_law26_awake k _ h3) (by simp) [] [] [] rfl .nil (by simp [-List.reduceReplicate, sOf_set, ofI_set, allU8_set, h2, h2_]) (by decide) (by simp) (by simp) (.inl rfl) (by simp) (by simp) ?_
  try simp [-List.reduceReplicate, sOf_set, ofI_set, allU8_set, h2, h2_]
  repeat' apply And.intro
  any_goals (first | exact hG262 _ (by kernel_rfl) | refine hR262 _ _ _ ?_ | omega | (unfold maxLen; omega) | (simp [-List.reduceReplicate, sOf_set, ofI_set, allU8_set, h2, h2_]; done) | (simp [-List.reduceReplicate, sOf_set, ofI_set, allU8_set, h2, h2_]; omega))
  refine AW.wk [(4, AV.bool v4)] [] 0 (by simp [-List.reduceReplicate, sOf_set, ofI_set, allU8_set, h2, h2_]) (by simp [-List.reduceReplicate, sOf_set, ofI_set, allU8_set, h2, h2_]) (by simp) ?_
  simp only [Option.some.injEq] at hF
  subst hF
  refine AW.ret (hQ _ _ _ ?_ (matchO_0 ?_)).1
  ·simp [Try.f11, h2, h2_]
  ·simp [h2, h2_]
 ·replace hF := ite_f h2 hF
  have h2_ := h2
  try simp [-List.reduceReplicate] at h2_
  try simp [-List.reduceReplicate, sOf_set, ofI_set, allU8_set, h2, h2_]
  repeat' apply And.intro
  any_goals (first | exact hG261 _ (by kernel_rfl) | refine hR261 _ _ _ ?_ | omega | (unfold maxLen; omega) | (simp [-List.reduceReplicate, sOf_set, ofI_set, allU8_set, h2, h2_]; done) | (simp [-List.reduceReplicate, sOf_set, ofI_set, allU8_set, h2, h2_]; omega))
  refine AW.wk [(0, AV.lst false false (List.map (AV.int .i64) v0)), (1, AV.str v1), (25, AV.bool (decide (200 < (v1.size : Int))))] [] 0 (by simp [-List.reduceReplicate, sOf_set, ofI_set, allU8_set, h2, h2_]) (by simp [-List.reduceReplicate, sOf_set, ofI_set, allU8_set, h2, h2_]) (by simp) ?_
  by_cases h4 : 200 < (v1.size : Int)
  ·replace hF := ite_t h4 hF
   have h4_ := h4
   try simp [-List.reduceReplicate] at h4_
   have F1 := And.intro h2 (And.intro h2_ (And.intro h4 h4_))
   refine AW.condT (by decide) (by first | (simp [-List.reduceReplicate, sOf_set, ofI_set, allU8_set, F1]; done) | (simp [-List.reduceReplicate, sOf_set, ofI_set, allU8_set, F1]; omega)) ?_
   refine AW.seqR mixed [] [none, none] (by kernel_rfl) fun G263 R263 hG263 hR263 => ?_
   try simp [-List.reduceReplicate, sOf_set, ofI_set, allU8_set, F1]
   repeat' apply And.intro
   try any_goals (first | omega | (unfold maxLen; omega) | (simp [-List.reduceReplicate, sOf_set, ofI_set, allU8_set, F1]; done))
   obtain ⟨v5, h5, hF⟩ := bnd1_elim hF
   refine aCall_l (w_law26_awake k _ h5) (by simp) [] [] [] rfl .nil (by simp [-List.reduceReplicate, sOf_set, ofI_set, allU8_set, F1]) (by decide) (by simp) (by simp) (.inl rfl) (by simp) (by simp) ?_
   try simp [-List.reduceReplicate, sOf_set, ofI_set, allU8_set, F1]
   repeat' apply And.intro
   any_goals (first | exact hG263 _ (by kernel_rfl) | refine hR263 _ _ _ ?_ | omega | (unfold maxLen; omega) | (simp [-List.reduceReplicate, sOf_set, ofI_set, allU8_set, F1]; done) | (simp [-List.reduceReplicate, sOf_set, ofI_set, allU8_set, F1]; omega))
   refine AW.wk [(4, AV.bool v5)] [] 0 (by simp [-List.reduceReplicate, sOf_set, ofI_set, allU8_set, F1]) (by simp [-List.reduceReplicate, sOf_set, ofI_set, allU8_set, F1]) (by simp) ?_
   simp only [Option.some.injEq] at hF
   subst hF
   refine AW.ret (hQ _ _ _ ?_ (matchO_0 ?_)).1
   ·simp [Try.f11, F1]
   ·simp [F1]
  ·replace hF := ite_f h4 hF
   have h4_ := h4
   try simp [-List.reduceReplicate] at h4_
   have F2 := And.intro h2 (And.intro h2_ (And.intro h4 h4_))
   refine AW.condF (by decide) (by first | (simp [-List.reduceReplicate, sOf_set, ofI_set, allU8_set, F2]; done) | (simp [-List.reduceReplicate, sOf_set, ofI_set, allU8_set, F2]; omega)) ?_
   refine AW.skip ?_
   refine hK260 _ _ _ ?_
   refine AW.seqR mixed [] [none, none, none] (by kernel_rfl) fun G264 R264 hG264 hR264 => ?_
   try simp [-List.reduceReplicate, sOf_set, ofI_set, allU8_set, F2]
   repeat' apply And.intro
   try any_goals (first | omega | (unfold maxLen; omega) | (simp [-List.reduceReplicate, sOf_set, ofI_set, allU8_set, F2]; done))
   obtain ⟨v6, v7, h6, hF⟩ := bnd2_elim hF
   refine aCall_l (w_mill_Roll k _ _ _ h6) (by simp) [] [] [] rfl (.cons (.same (by simp [-List.reduceReplicate, sOf_set, ofI_set, allU8_set, F2])) .nil) (by simp [-List.reduceReplicate, sOf_set, ofI_set, allU8_set, F2]) (by decide) (by simp) (by simp) (.inl rfl) (by simp) (by simp) ?_
   try simp [-List.reduceReplicate, sOf_set, ofI_set, allU8_set, F2]
   repeat' apply And.intro
   any_goals (first | exact hG264 _ (by kernel_rfl) | refine hR264 _ _ _ ?_ | omega | (unfold maxLen; omega) | (simp [-List.reduceReplicate, sOf_set, ofI_set, allU8_set, F2]; done) | (simp [-List.reduceReplicate, sOf_set, ofI_set, allU8_set, F2]; omega))
   refine AW.wk [(1, AV.str v1), (5, AV.ptr 0 0)] [(0, .cells [AV.lst false false (List.map (AV.int .i64) v6), AV.int .i64 v7])] 1 (by simp [-List.reduceReplicate, sOf_set, ofI_set, allU8_set, F2]) (by simp [-List.reduceReplicate, sOf_set, ofI_set, allU8_set, F2]) (by simp) ?_
   refine AW.seqR mixed [] [none, none, none, none] (by kernel_rfl) fun G265 R265 hG265 hR265 => ?_
   try simp [-List.reduceReplicate, sOf_set, ofI_set, allU8_set, F2]
   repeat' apply And.intro
   try any_goals (first | omega | (unfold maxLen; omega) | (simp [-List.reduceReplicate, sOf_set, ofI_set, allU8_set, F2]; done))
   obtain ⟨v8, v9, v10, v11, v12, v13, v14, v15, h7, hF⟩ := bnd8_elim hF
   refine aCall_l (w_mill_Rules k _ _ _ _ _ _ _ _ _ _ h7) (by simp) [0] [] [0] rfl (.cons (.same (by simp [-List.reduceReplicate, sOf_set, ofI_set, allU8_set, F2])) .nil) (by simp [-List.reduceReplicate, sOf_set, ofI_set, allU8_set, F2]) (by decide) (by simp) (by simp) (.inl rfl) (by simp) (by simp) ?_
   try simp [-List.reduceReplicate, sOf_set, ofI_set, allU8_set, F2]
   repeat' apply And.intro
   any_goals (first | exact hG265 _ (by kernel_rfl) | refine hR265 _ _ _ ?_ | omega | (unfold maxLen; omega) | (simp [-List.reduceReplicate, sOf_set, ofI_set, allU8_set, F2]; done) | (simp [-List.reduceReplicate, sOf_set, ofI_set, allU8_set, F2]; omega))
   refine AW.wk [(1, AV.str v1), (5, AV.ptr 0 0), (6, AV.ptr 2 0)] [(0, .cells [AV.lst false false (List.map (AV.int .i64) v6), AV.int .i64 v15]), (1, .cells (List.map (AV.int .i64) v10)), (2, .cells [AV.lst false false (List.map (AV.int .i64) v8), AV.lst false false (List.map (AV.int .i64) v9), AV.slc 1 0 1 v10.length false, AV.int .i64 v11, AV.int .i64 v12, AV.int .i64 v13, AV.int .i64 v14])] 3 (by simp [-List.reduceReplicate, sOf_set, ofI_set, allU8_set, F2]) (by simp [-List.reduceReplicate, sOf_set, ofI_set, allU8_set, F2]) (by simp) ?_
   refine AW.frz 1 (o := .cells (List.map (AV.int .i64) v10)) (by simp [-List.reduceReplicate, sOf_set, ofI_set, allU8_set, F2]) rfl [] [(2, .cells [AV.lst false false (List.map (AV.int .i64) v8), AV.lst false false (List.map (AV.int .i64) v9), AV.lst false false (List.map (AV.int .i64) v10), AV.int .i64 v11, AV.int .i64 v12, AV.int .i64 v13, AV.int .i64 v14])] trivial ⟨⟨by simp, AObj.cells [AV.lst false false (List.map (AV.int .i64) v8), AV.lst false false (List.map (AV.int .i64) v9), AV.slc 1 0 1 v10.length false, AV.int .i64 v11, AV.int .i64 v12, AV.int .i64 v13, AV.int .i64 v14], by simp [-List.reduceReplicate, sOf_set, ofI_set, allU8_set, F2], (.mk (.cons (.same _) (.cons (.same _) (.cons (.l (by simp) (by simp) (by simp) (by simp)) (.cons (.same _) (.cons (.same _) (.cons (.same _) (.cons (.same _) .nil))))))))⟩, trivial⟩ ?_
   refine AW.wk [(1, AV.str v1), (5, AV.ptr 0 0), (6, AV.ptr 2 0)] [(0, .cells [AV.lst false false (List.map (AV.int .i64) v6), AV.int .i64 v15]), (2, .cells [AV.lst false false (List.map (AV.int .i64) v8), AV.lst false false (List.map (AV.int .i64) v9), AV.lst false false (List.map (AV.int .i64) v10), AV.int .i64 v11, AV.int .i64 v12, AV.int .i64 v13, AV.int .i64 v14])] 3 (by simp [-List.reduceReplicate, sOf_set, ofI_set, allU8_set, F2]) (by simp [-List.reduceReplicate, sOf_set, ofI_set, allU8_set, F2]) (by simp) ?_
   refine AW.seqR mixed [] [none, none, none, none, none, none] (by kernel_rfl) fun G266 R266 hG266 hR266 => ?_
   obtain ⟨h8, hF⟩ := chk_elim hF
   obtain ⟨h9, hF⟩ := chk_elim hF
   have h9_ := h9
   try simp [-List.reduceReplicate] at h9_
   obtain ⟨h10, hF⟩ := chk_elim hF
   have h10_ := h10
   try simp [-List.reduceReplicate] at h10_
   have F3 := And.intro F2 (And.intro h8 (And.intro h9 (And.intro h9_ (And.intro h10 h10_))))
   try simp [-List.reduceReplicate, sOf_set, ofI_set, allU8_set, F3]
   repeat' apply And.intro
   any_goals (first | exact hG266 _ (by kernel_rfl) | refine hR266 _ _ _ ?_ | omega | (unfold maxLen; omega) | (simp [-List.reduceReplicate, sOf_set, ofI_set, allU8_set, F3]; done) | (simp [-List.reduceReplicate, sOf_set, ofI_set, allU8_set, F3]; omega))
   refine AW.wk [(5, AV.ptr 0 0), (6, AV.ptr 2 0), (7, AV.str ((v1 ++ (ofI (List.replicate (32 : Int).toNat 0))).extract 0 (32 : Int).toNat))] [(0, .cells [AV.lst false false (List.map (AV.int .i64) v6), AV.int .i64 v15]), (2, .cells [AV.lst false false (List.map (AV.int .i64) v8), AV.lst false false (List.map (AV.int .i64) v9), AV.lst false false (List.map (AV.int .i64) v10), AV.int .i64 v11, AV.int .i64 v12, AV.int .i64 v13, AV.int .i64 v14])] 3 (by simp [-List.reduceReplicate, sOf_set, ofI_set, allU8_set, F3]) (by simp [-List.reduceReplicate, sOf_set, ofI_set, allU8_set, F3]) (by simp) ?_
   refine AW.seqR mixed [] [none, none, none] (by kernel_rfl) fun G267 R267 hG267 hR267 => ?_
   try simp [-List.reduceReplicate, sOf_set, ofI_set, allU8_set, F3]
   repeat' apply And.intro
   try any_goals (first | omega | (unfold maxLen; omega) | (simp [-List.reduceReplicate, sOf_set, ofI_set, allU8_set, F3]; done))
   obtain ⟨v16, v17, h11, hF⟩ := bnd2_elim hF
   refine aCall_l (w_mill_Keys k _ _ _ _ _ h11) (by simp) [0] [] [0] rfl (.cons (.same (by simp [-List.reduceReplicate, sOf_set, ofI_set, allU8_set, F3])) (.cons (.same (by simp [-List.reduceReplicate, sOf_set, ofI_set, allU8_set, F3])) .nil)) (by simp [-List.reduceReplicate, sOf_set, ofI_set, allU8_set, F3]) (by decide) (by simp) (by simp) (.inl rfl) (by simp) (by simp) ?_
   try simp [-List.reduceReplicate, sOf_set, ofI_set, allU8_set, F3]
   repeat' apply And.intro
   any_goals (first | exact hG267 _ (by kernel_rfl) | refine hR267 _ _ _ ?_ | omega | (unfold maxLen; omega) | (simp [-List.reduceReplicate, sOf_set, ofI_set, allU8_set, F3]; done) | (simp [-List.reduceReplicate, sOf_set, ofI_set, allU8_set, F3]; omega))
   refine AW.wk [(5, AV.ptr 0 0), (6, AV.ptr 2 0), (7, AV.str ((v1 ++ (ofI (List.replicate (32 : Int).toNat 0))).extract 0 (32 : Int).toNat)), (8, AV.lst false false (List.map (AV.int .i64) v16))] [(0, .cells [AV.lst false false (List.map (AV.int .i64) v6), AV.int .i64 v17]), (2, .cells [AV.lst false false (List.map (AV.int .i64) v8), AV.lst false false (List.map (AV.int .i64) v9), AV.lst false false (List.map (AV.int .i64) v10), AV.int .i64 v11, AV.int .i64 v12, AV.int .i64 v13, AV.int .i64 v14])] 3 (by simp [-List.reduceReplicate, sOf_set, ofI_set, allU8_set, F3]) (by simp [-List.reduceReplicate, sOf_set, ofI_set, allU8_set, F3]) (by simp) ?_
   refine AW.seqR mixed [] [none, none, none, none, none, none, none, none, none, none] (by kernel_rfl) fun G268 R268 hG268 hR268 => ?_
   try simp [-List.reduceReplicate, sOf_set, ofI_set, allU8_set, F3]
   repeat' apply And.intro
   try any_goals (first | omega | (unfold maxLen; omega) | (simp [-List.reduceReplicate, sOf_set, ofI_set, allU8_set, F3]; done))
   obtain ⟨v18, v19, h12, hF⟩ := bnd2_elim hF
   refine aCall_l (w_made_Dice_Next k _ _ _ _ _ h12) (by simp) [0] [] [0] rfl (.cons (.same (by simp [-List.reduceReplicate, sOf_set, ofI_set, allU8_set, F3])) (.cons (.same (by simp [-List.reduceReplicate, sOf_set, ofI_set, allU8_set, F3])) .nil)) (by simp [-List.reduceReplicate, sOf_set, ofI_set, allU8_set, F3]) (by decide) (by simp) (by simp) (.inl rfl) (by simp) (by simp) ?_
   try simp [-List.reduceReplicate, sOf_set, ofI_set, allU8_set, F3]
   repeat' apply And.intro
   try any_goals (first | omega | (unfold maxLen; omega) | (simp [-List.reduceReplicate, sOf_set, ofI_set, allU8_set, F3]; done))
   obtain ⟨v20, v21, h13, hF⟩ := bnd2_elim hF
   refine aCall_l (w_made_Dice_Next k _ _ _ _ _ h13) (by simp) [0] [] [0] rfl (.cons (.same (by simp [-List.reduceReplicate, sOf_set, ofI_set, allU8_set, F3])) (.cons (.same (by simp [-List.reduceReplicate, sOf_set, ofI_set, allU8_set, F3])) .nil)) (by simp [-List.reduceReplicate, sOf_set, ofI_set, allU8_set, F3]) (by decide) (by simp) (by simp) (.inl rfl) (by simp) (by simp) ?_
   try simp [-List.reduceReplicate, sOf_set, ofI_set, allU8_set, F3]
   repeat' apply And.intro
   try any_goals (first | omega | (unfold maxLen; omega) | (simp [-List.reduceReplicate, sOf_set, ofI_set, allU8_set, F3]; done))
   obtain ⟨v22, v23, h14, hF⟩ := bnd2_elim hF
   refine aCall_l (w_made_Dice_Next k _ _ _ _ _ h14) (by simp) [0] [] [0] rfl (.cons (.same (by simp [-List.reduceReplicate, sOf_set, ofI_set, allU8_set, F3])) (.cons (.same (by simp [-List.reduceReplicate, sOf_set, ofI_set, allU8_set, F3])) .nil)) (by simp [-List.reduceReplicate, sOf_set, ofI_set, allU8_set, F3]) (by decide) (by simp) (by simp) (.inl rfl) (by simp) (by simp) ?_
   try simp [-List.reduceReplicate, sOf_set, ofI_set, allU8_set, F3]
   repeat' apply And.intro
   any_goals (first | exact hG268 _ (by kernel_rfl) | refine hR268 _ _ _ ?_ | omega | (unfold maxLen; omega) | (simp [-List.reduceReplicate, sOf_set, ofI_set, allU8_set, F3]; done) | (simp [-List.reduceReplicate, sOf_set, ofI_set, allU8_set, F3]; omega))
   refine AW.wk [(6, AV.ptr 2 0), (7, AV.str ((v1 ++ (ofI (List.replicate (32 : Int).toNat 0))).extract 0 (32 : Int).toNat)), (8, AV.lst false false (List.map (AV.int .i64) v16)), (9, AV.ptr 3 0)] [(2, .cells [AV.lst false false (List.map (AV.int .i64) v8), AV.lst false false (List.map (AV.int .i64) v9), AV.lst false false (List.map (AV.int .i64) v10), AV.int .i64 v11, AV.int .i64 v12, AV.int .i64 v13, AV.int .i64 v14]), (3, .cells [AV.int .i64 v18, AV.int .i64 (IntKind.wrap .i64 (2 + v20)), AV.int .i64 v22, AV.int .i64 0])] 4 (by simp [-List.reduceReplicate, sOf_set, ofI_set, allU8_set, F3]) (by simp [-List.reduceReplicate, sOf_set, ofI_set, allU8_set, F3]) (by simp) ?_
   refine AW.seqR mixed [] [none, none, none, none, none, none, none, none, none, none] (by kernel_rfl) fun G269 R269 hG269 hR269 => ?_
   try simp [-List.reduceReplicate, sOf_set, ofI_set, allU8_set, F3]
   repeat' apply And.intro
   try any_goals (first | omega | (unfold maxLen; omega) | (simp [-List.reduceReplicate, sOf_set, ofI_set, allU8_set, F3]; done))
   obtain ⟨v24, v25, h15, hF⟩ := bnd2_elim hF
   refine aCall_l (w_committee_Of k _ _ _ _ _ _ _ _ _ _ _ _ _ _ _ h15) (by simp) [] [] [] rfl (.cons (.same (by simp [-List.reduceReplicate, sOf_set, ofI_set, allU8_set, F3])) (.cons (.same (by simp [-List.reduceReplicate, sOf_set, ofI_set, allU8_set, F3])) (.cons (.same (by simp [-List.reduceReplicate, sOf_set, ofI_set, allU8_set, F3])) (.cons (.same (by simp [-List.reduceReplicate, sOf_set, ofI_set, allU8_set, F3])) .nil)))) (by simp [-List.reduceReplicate, sOf_set, ofI_set, allU8_set, F3]) (by decide) (by simp) (by simp) (.inl rfl) (by simp) (by simp) ?_
   try simp [-List.reduceReplicate, sOf_set, ofI_set, allU8_set, F3]
   repeat' apply And.intro
   any_goals (first | exact hG269 _ (by kernel_rfl) | refine hR269 _ _ _ ?_ | omega | (unfold maxLen; omega) | (simp [-List.reduceReplicate, sOf_set, ofI_set, allU8_set, F3]; done) | (simp [-List.reduceReplicate, sOf_set, ofI_set, allU8_set, F3]; omega))
   refine AW.wk [(6, AV.ptr 2 0), (7, AV.str ((v1 ++ (ofI (List.replicate (32 : Int).toNat 0))).extract 0 (32 : Int).toNat)), (8, AV.lst false false (List.map (AV.int .i64) v16)), (9, AV.ptr 3 0), (10, AV.slc 4 0 1 v24.length false), (11, AV.int .i64 v25)] [(2, .cells [AV.lst false false (List.map (AV.int .i64) v8), AV.lst false false (List.map (AV.int .i64) v9), AV.lst false false (List.map (AV.int .i64) v10), AV.int .i64 v11, AV.int .i64 v12, AV.int .i64 v13, AV.int .i64 v14]), (3, .cells [AV.int .i64 v18, AV.int .i64 (IntKind.wrap .i64 (2 + v20)), AV.int .i64 v22, AV.int .i64 0]), (4, .grow (List.map (AV.int .i64) v24))] 5 (by simp [-List.reduceReplicate, sOf_set, ofI_set, allU8_set, F3]) (by simp [-List.reduceReplicate, sOf_set, ofI_set, allU8_set, F3]) (by simp) ?_
   refine AW.frz 4 (o := .grow (List.map (AV.int .i64) v24)) (by simp [-List.reduceReplicate, sOf_set, ofI_set, allU8_set, F3]) rfl [(10, AV.lst false false (List.map (AV.int .i64) v24))] [] ⟨(.l (by simp) (by simp) (by simp) (by simp)), trivial⟩ trivial ?_
   refine AW.wk [(6, AV.ptr 2 0), (7, AV.str ((v1 ++ (ofI (List.replicate (32 : Int).toNat 0))).extract 0 (32 : Int).toNat)), (8, AV.lst false false (List.map (AV.int .i64) v16)), (9, AV.ptr 3 0), (10, AV.lst false false (List.map (AV.int .i64) v24)), (11, AV.int .i64 v25)] [(2, .cells [AV.lst false false (List.map (AV.int .i64) v8), AV.lst false false (List.map (AV.int .i64) v9), AV.lst false false (List.map (AV.int .i64) v10), AV.int .i64 v11, AV.int .i64 v12, AV.int .i64 v13, AV.int .i64 v14]), (3, .cells [AV.int .i64 v18, AV.int .i64 (IntKind.wrap .i64 (2 + v20)), AV.int .i64 v22, AV.int .i64 0])] 5 (by simp [-List.reduceReplicate, sOf_set, ofI_set, allU8_set, F3]) (by simp [-List.reduceReplicate, sOf_set, ofI_set, allU8_set, F3]) (by simp) ?_
   refine AW.seqR mixed [] [none, none] (by kernel_rfl) fun G270 R270 hG270 hR270 => ?_
   try simp [-List.reduceReplicate, sOf_set, ofI_set, allU8_set, F3]
   repeat' apply And.intro
   any_goals (first | exact hG270 _ (by kernel_rfl) | refine hR270 _ _ _ ?_ | omega | (unfold maxLen; omega) | (simp [-List.reduceReplicate, sOf_set, ofI_set, allU8_set, F3]; done) | (simp [-List.reduceReplicate, sOf_set, ofI_set, allU8_set, F3]; omega))
   refine AW.wk [(6, AV.ptr 2 0), (7, AV.str ((v1 ++ (ofI (List.replicate (32 : Int).toNat 0))).extract 0 (32 : Int).toNat)), (8, AV.lst false false (List.map (AV.int .i64) v16)), (9, AV.ptr 3 0), (10, AV.lst false false (List.map (AV.int .i64) v24)), (11, AV.int .i64 v25)] [(2, .cells [AV.lst false false (List.map (AV.int .i64) v8), AV.lst false false (List.map (AV.int .i64) v9), AV.lst false false (List.map (AV.int .i64) v10), AV.int .i64 v11, AV.int .i64 v12, AV.int .i64 v13, AV.int .i64 v14]), (3, .cells [AV.int .i64 v18, AV.int .i64 (IntKind.wrap .i64 (2 + v20)), AV.int .i64 v22, AV.int .i64 1])] 5 (by simp [-List.reduceReplicate, sOf_set, ofI_set, allU8_set, F3]) (by simp [-List.reduceReplicate, sOf_set, ofI_set, allU8_set, F3]) (by simp) ?_
   refine AW.seqR mixed [] [none, none, none, none, none, none, none, none, none, none] (by kernel_rfl) fun G271 R271 hG271 hR271 => ?_
   try simp [-List.reduceReplicate, sOf_set, ofI_set, allU8_set, F3]
   repeat' apply And.intro
   try any_goals (first | omega | (unfold maxLen; omega) | (simp [-List.reduceReplicate, sOf_set, ofI_set, allU8_set, F3]; done))
   obtain ⟨v26, v27, h16, hF⟩ := bnd2_elim hF
   refine aCall_l (w_committee_Of k _ _ _ _ _ _ _ _ _ _ _ _ _ _ _ h16) (by simp) [] [] [] rfl (.cons (.same (by simp [-List.reduceReplicate, sOf_set, ofI_set, allU8_set, F3])) (.cons (.same (by simp [-List.reduceReplicate, sOf_set, ofI_set, allU8_set, F3])) (.cons (.same (by simp [-List.reduceReplicate, sOf_set, ofI_set, allU8_set, F3])) (.cons (.same (by simp [-List.reduceReplicate, sOf_set, ofI_set, allU8_set, F3])) .nil)))) (by simp [-List.reduceReplicate, sOf_set, ofI_set, allU8_set, F3]) (by decide) (by simp) (by simp) (.inl rfl) (by simp) (by simp) ?_
   try simp [-List.reduceReplicate, sOf_set, ofI_set, allU8_set, F3]
   repeat' apply And.intro
   any_goals (first | exact hG271 _ (by kernel_rfl) | refine hR271 _ _ _ ?_ | omega | (unfold maxLen; omega) | (simp [-List.reduceReplicate, sOf_set, ofI_set, allU8_set, F3]; done) | (simp [-List.reduceReplicate, sOf_set, ofI_set, allU8_set, F3]; omega))
   refine AW.wk [(6, AV.ptr 2 0), (8, AV.lst false false (List.map (AV.int .i64) v16)), (10, AV.lst false false (List.map (AV.int .i64) v24)), (11, AV.int .i64 v25), (12, AV.slc 5 0 1 v26.length false), (13, AV.int .i64 v27)] [(2, .cells [AV.lst false false (List.map (AV.int .i64) v8), AV.lst false false (List.map (AV.int .i64) v9), AV.lst false false (List.map (AV.int .i64) v10), AV.int .i64 v11, AV.int .i64 v12, AV.int .i64 v13, AV.int .i64 v14]), (5, .grow (List.map (AV.int .i64) v26))] 6 (by simp [-List.reduceReplicate, sOf_set, ofI_set, allU8_set, F3]) (by simp [-List.reduceReplicate, sOf_set, ofI_set, allU8_set, F3]) (by simp) ?_
   refine AW.frz 5 (o := .grow (List.map (AV.int .i64) v26)) (by simp [-List.reduceReplicate, sOf_set, ofI_set, allU8_set, F3]) rfl [(12, AV.lst false false (List.map (AV.int .i64) v26))] [] ⟨(.l (by simp) (by simp) (by simp) (by simp)), trivial⟩ trivial ?_
   refine AW.wk [(6, AV.ptr 2 0), (8, AV.lst false false (List.map (AV.int .i64) v16)), (10, AV.lst false false (List.map (AV.int .i64) v24)), (11, AV.int .i64 v25), (12, AV.lst false false (List.map (AV.int .i64) v26)), (13, AV.int .i64 v27)] [(2, .cells [AV.lst false false (List.map (AV.int .i64) v8), AV.lst false false (List.map (AV.int .i64) v9), AV.lst false false (List.map (AV.int .i64) v10), AV.int .i64 v11, AV.int .i64 v12, AV.int .i64 v13, AV.int .i64 v14])] 6 (by simp [-List.reduceReplicate, sOf_set, ofI_set, allU8_set, F3]) (by simp [-List.reduceReplicate, sOf_set, ofI_set, allU8_set, F3]) (by simp) ?_
   refine AW.seq fun K275 hK275 => ?_
   refine AW.seqR mixed [] [none, none, none, some (65, false), some (65, false), some (65, false), some (65, false), some (65, false), some (65, false), some (65, false), some (65, false), none] (by kernel_rfl) fun G276 R276 hG276 hR276 => ?_
   by_cases h17 : v25 ≠ 0
   ·replace hF := ite_t h17 hF
    have h17_ := eqb_f h17
    have h17__ := neb_t h17
    have F4 := And.intro F3 (And.intro h17 (And.intro h17_ h17__))
    try simp [-List.reduceReplicate, sOf_set, ofI_set, allU8_set, F4]
    repeat' apply And.intro
    any_goals (first | exact hG276 _ (by kernel_rfl) | refine hR276 _ _ _ ?_ | omega | (unfold maxLen; omega) | (simp [-List.reduceReplicate, sOf_set, ofI_set, allU8_set, F4]; done) | (simp [-List.reduceReplicate, sOf_set, ofI_set, allU8_set, F4]; omega))
    refine AW.wk [(6, AV.ptr 2 0), (8, AV.lst false false (List.map (AV.int .i64) v16)), (10, AV.lst false false (List.map (AV.int .i64) v24)), (12, AV.lst false false (List.map (AV.int .i64) v26)), (13, AV.int .i64 v27), (74, AV.bool true)] [(2, .cells [AV.lst false false (List.map (AV.int .i64) v8), AV.lst false false (List.map (AV.int .i64) v9), AV.lst false false (List.map (AV.int .i64) v10), AV.int .i64 v11, AV.int .i64 v12, AV.int .i64 v13, AV.int .i64 v14])] 6 (by simp [-List.reduceReplicate, sOf_set, ofI_set, allU8_set, F4]) (by simp [-List.reduceReplicate, sOf_set, ofI_set, allU8_set, F4]) (by simp) ?_
    refine AW.condT (by decide) (by simp [-List.reduceReplicate, sOf_set, ofI_set, allU8_set, F4]) ?_
    refine AW.seqR mixed [] [none] (by kernel_rfl) fun G277 R277 hG277 hR277 => ?_
    try simp [-List.reduceReplicate, sOf_set, ofI_set, allU8_set, F4]
    repeat' apply And.intro
    any_goals (first | exact hG277 _ (by kernel_rfl) | refine hR277 _ _ _ ?_ | omega | (unfold maxLen; omega) | (simp [-List.reduceReplicate, sOf_set, ofI_set, allU8_set, F4]; done) | (simp [-List.reduceReplicate, sOf_set, ofI_set, allU8_set, F4]; omega))
    refine AW.wk [(4, AV.bool false)] [] 6 (by simp [-List.reduceReplicate, sOf_set, ofI_set, allU8_set, F4]) (by simp [-List.reduceReplicate, sOf_set, ofI_set, allU8_set, F4]) (by simp) ?_
    simp only [Option.some.injEq] at hF
    subst hF
    refine AW.ret (hQ _ _ _ ?_ (matchO_0 ?_)).1
    ·simp [Try.f11, F4]
    ·simp [F4]
   ·replace hF := ite_f h17 hF
    have h17q : v25 = 0 := Classical.not_not.1 h17
    have h17_ := eqb_t h17q
    have h17__ := neb_f h17q
    obtain ⟨v28, h18, hF⟩ := let1_elim hF
    have h18_ := h18
    try simp [-List.reduceReplicate] at h18_
    have F5 := And.intro F3 (And.intro h17_ (And.intro h17__ (And.intro h17q (And.intro h18 h18_))))
    try simp [-List.reduceReplicate, sOf_set, ofI_set, allU8_set, F5]
    repeat' apply And.intro
    any_goals (first | exact hG276 _ (by kernel_rfl) | refine hR276 _ _ _ ?_ | omega | (unfold maxLen; omega) | (simp [-List.reduceReplicate, sOf_set, ofI_set, allU8_set, F5]; done) | (simp [-List.reduceReplicate, sOf_set, ofI_set, allU8_set, F5]; omega))
    refine AW.wk [(6, AV.ptr 2 0), (8, AV.lst false false (List.map (AV.int .i64) v16)), (10, AV.lst false false (List.map (AV.int .i64) v24)), (12, AV.lst false false (List.map (AV.int .i64) v26)), (13, AV.int .i64 v27), (74, AV.bool ((v24.length : Int) != v28))] [(2, .cells [AV.lst false false (List.map (AV.int .i64) v8), AV.lst false false (List.map (AV.int .i64) v9), AV.lst false false (List.map (AV.int .i64) v10), AV.int .i64 v11, AV.int .i64 v12, AV.int .i64 v13, AV.int .i64 v14])] 6 (by simp [-List.reduceReplicate, sOf_set, ofI_set, allU8_set, F5]) (by simp [-List.reduceReplicate, sOf_set, ofI_set, allU8_set, F5]) (by simp) ?_
    by_cases h19 : (v24.length : Int) ≠ v28
    ·replace hF := ite_t h19 hF
     have h19_ := eqb_f h19
     have h19__ := neb_t h19
     have F6 := And.intro F5 (And.intro h19 (And.intro h19_ h19__))
     refine AW.condT (by decide) (by first | (simp [-List.reduceReplicate, sOf_set, ofI_set, allU8_set, F6]; done) | (simp [-List.reduceReplicate, sOf_set, ofI_set, allU8_set, F6]; omega)) ?_
     refine AW.seqR mixed [] [none] (by kernel_rfl) fun G278 R278 hG278 hR278 => ?_
     try simp [-List.reduceReplicate, sOf_set, ofI_set, allU8_set, F6]
     repeat' apply And.intro
     any_goals (first | exact hG278 _ (by kernel_rfl) | refine hR278 _ _ _ ?_ | omega | (unfold maxLen; omega) | (simp [-List.reduceReplicate, sOf_set, ofI_set, allU8_set, F6]; done) | (simp [-List.reduceReplicate, sOf_set, ofI_set, allU8_set, F6]; omega))
     refine AW.wk [(4, AV.bool false)] [] 6 (by simp [-List.reduceReplicate, sOf_set, ofI_set, allU8_set, F6]) (by simp [-List.reduceReplicate, sOf_set, ofI_set, allU8_set, F6]) (by simp) ?_
     simp only [Option.some.injEq] at hF
     subst hF
     refine AW.ret (hQ _ _ _ ?_ (matchO_0 ?_)).1
     ·simp [Try.f11, F6]
     ·simp [F6]
    ·replace hF := ite_f h19 hF
     have h19q : (v24.length : Int) = v28 := Classical.not_not.1 h19
     have h19_ := eqb_t h19q
     have h19__ := neb_f h19q
     have F7 := And.intro F5 (And.intro h19_ h19__)
     refine AW.condF (by decide) (by first | (simp [-List.reduceReplicate, sOf_set, ofI_set, allU8_set, F7]; done) | (simp [-List.reduceReplicate, sOf_set, ofI_set, allU8_set, F7]; omega)) ?_
     refine AW.skip ?_
     refine hK275 _ _ _ ?_
     refine AW.seq fun K281 hK281 => ?_
     refine AW.seqR mixed [] [none, none, none, none, none] (by kernel_rfl) fun G282 R282 hG282 hR282 => ?_
     try simp [-List.reduceReplicate, sOf_set, ofI_set, allU8_set, F7]
     repeat' apply And.intro
     any_goals (first | exact hG282 _ (by kernel_rfl) | refine hR282 _ _ _ ?_ | omega | (unfold maxLen; omega) | (simp [-List.reduceReplicate, sOf_set, ofI_set, allU8_set, F7]; done) | (simp [-List.reduceReplicate, sOf_set, ofI_set, allU8_set, F7]; omega))
     refine AW.wk [(6, AV.ptr 2 0), (8, AV.lst false false (List.map (AV.int .i64) v16)), (10, AV.lst false false (List.map (AV.int .i64) v24)), (12, AV.lst false false (List.map (AV.int .i64) v26)), (13, AV.int .i64 v27), (79, AV.bool (decide ((v16.length : Int) ≤ v12)))] [(2, .cells [AV.lst false false (List.map (AV.int .i64) v8), AV.lst false false (List.map (AV.int .i64) v9), AV.lst false false (List.map (AV.int .i64) v10), AV.int .i64 v11, AV.int .i64 v12, AV.int .i64 v13, AV.int .i64 v14])] 6 (by simp [-List.reduceReplicate, sOf_set, ofI_set, allU8_set, F7]) (by simp [-List.reduceReplicate, sOf_set, ofI_set, allU8_set, F7]) (by simp) ?_
     by_cases h20 : (v16.length : Int) ≤ v12
     ·replace hF := ite_t h20 hF
      have h20_ := h20
      try simp [-List.reduceReplicate] at h20_
      have F8 := And.intro F7 (And.intro h20 h20_)
      refine AW.condT (by decide) (by first | (simp [-List.reduceReplicate, sOf_set, ofI_set, allU8_set, F8]; done) | (simp [-List.reduceReplicate, sOf_set, ofI_set, allU8_set, F8]; omega)) ?_
      refine AW.seqR mixed [] [none, none, none, some (82, true), some (82, true), some (82, true), none, none, some (87, true), none, none] (by kernel_rfl) fun G283 R283 hG283 hR283 => ?_
      by_cases h21 : v27 = 44
      ·replace hF := ite_t h21 hF
       have h21q : v27 = 44 := h21
       have h21_ := eqb_t h21q
       have h21__ := neb_f h21q
       by_cases h22 : (v26.length : Int) = 0
       ·replace hF := ite_t h22 hF
        have h22q : (v26.length : Int) = 0 := h22
        have h22_ := eqb_t h22q
        have h22__ := neb_f h22q
        have F9 := And.intro F8 (And.intro h21_ (And.intro h21__ (And.intro h21q (And.intro h22_ (And.intro h22__ h22q)))))
        try simp [-List.reduceReplicate, sOf_set, ofI_set, allU8_set, F9]
        repeat' apply And.intro
        try any_goals (first | omega | (unfold maxLen; omega) | (simp [-List.reduceReplicate, sOf_set, ofI_set, allU8_set, F9]; done))
        obtain ⟨v29, h23, hF⟩ := bnd1_elim hF
        refine aCall_l (w_law26_awake k _ h23) (by simp) [] [] [] rfl .nil (by simp [-List.reduceReplicate, sOf_set, ofI_set, allU8_set, F9]) (by decide) (by simp) (by simp) (.inl rfl) (by simp) (by simp) ?_
        try simp [-List.reduceReplicate, sOf_set, ofI_set, allU8_set, F9]
        repeat' apply And.intro
        any_goals (first | exact hG283 _ (by kernel_rfl) | refine hR283 _ _ _ ?_ | omega | (unfold maxLen; omega) | (simp [-List.reduceReplicate, sOf_set, ofI_set, allU8_set, F9]; done) | (simp [-List.reduceReplicate, sOf_set, ofI_set, allU8_set, F9]; omega))
        refine AW.wk [(4, AV.bool v29)] [] 6 (by simp [-List.reduceReplicate, sOf_set, ofI_set, allU8_set, F9]) (by simp [-List.reduceReplicate, sOf_set, ofI_set, allU8_set, F9]) (by simp) ?_
        simp only [Option.some.injEq] at hF
        subst hF
        refine AW.ret (hQ _ _ _ ?_ (matchO_0 ?_)).1
        ·simp [Try.f11, F9]
        ·simp [F9]
       ·replace hF := ite_f h22 hF
        have h22_ := eqb_f h22
        have h22__ := neb_t h22
        have F10 := And.intro F8 (And.intro h21_ (And.intro h21__ (And.intro h21q (And.intro h22 (And.intro h22_ h22__)))))
        try simp [-List.reduceReplicate, sOf_set, ofI_set, allU8_set, F10]
        repeat' apply And.intro
        any_goals (first | exact hG283 _ (by kernel_rfl) | refine hR283 _ _ _ ?_ | omega | (unfold maxLen; omega) | (simp [-List.reduceReplicate, sOf_set, ofI_set, allU8_set, F10]; done) | (simp [-List.reduceReplicate, sOf_set, ofI_set, allU8_set, F10]; omega))
        refine AW.wk [(4, AV.bool false)] [] 6 (by simp [-List.reduceReplicate, sOf_set, ofI_set, allU8_set, F10]) (by simp [-List.reduceReplicate, sOf_set, ofI_set, allU8_set, F10]) (by simp) ?_
        simp only [Option.some.injEq] at hF
        subst hF
        refine AW.ret (hQ _ _ _ ?_ (matchO_0 ?_)).1
        ·simp [Try.f11, F10]
        ·simp [F10]
      ·replace hF := ite_f h21 hF
       have h21_ := eqb_f h21
       have h21__ := neb_t h21
       have F11 := And.intro F8 (And.intro h21 (And.intro h21_ h21__))
       try simp [-List.reduceReplicate, sOf_set, ofI_set, allU8_set, F11]
       repeat' apply And.intro
       any_goals (first | exact hG283 _ (by kernel_rfl) | refine hR283 _ _ _ ?_ | omega | (unfold maxLen; omega) | (simp [-List.reduceReplicate, sOf_set, ofI_set, allU8_set, F11]; done) | (simp [-List.reduceReplicate, sOf_set, ofI_set, allU8_set, F11]; omega))
       refine AW.wk [(4, AV.bool false)] [] 6 (by simp [-List.reduceReplicate, sOf_set, ofI_set, allU8_set, F11]) (by simp [-List.reduceReplicate, sOf_set, ofI_set, allU8_set, F11]) (by simp) ?_
       simp only [Option.some.injEq] at hF
       subst hF
       refine AW.ret (hQ _ _ _ ?_ (matchO_0 ?_)).1
       ·simp [Try.f11, F11]
       ·simp [F11]
     ·replace hF := ite_f h20 hF
      have h20_ := h20
      try simp [-List.reduceReplicate] at h20_
      have F12 := And.intro F7 (And.intro h20 h20_)
      refine AW.condF (by decide) (by first | (simp [-List.reduceReplicate, sOf_set, ofI_set, allU8_set, F12]; done) | (simp [-List.reduceReplicate, sOf_set, ofI_set, allU8_set, F12]; omega)) ?_
      refine AW.skip ?_
      refine hK281 _ _ _ ?_
      refine AW.seq fun K287 hK287 => ?_
      refine AW.seqR mixed [] [none, none, none, some (92, false), some (92, false), some (92, false), some (92, false), some (92, false), some (92, false), some (92, false), some (92, false), some (92, false), some (92, false), some (92, false), none] (by kernel_rfl) fun G288 R288 hG288 hR288 => ?_
      by_cases h24 : v27 ≠ 0
      ·replace hF := ite_t h24 hF
       have h24_ := eqb_f h24
       have h24__ := neb_t h24
       have F13 := And.intro F12 (And.intro h24 (And.intro h24_ h24__))
       try simp [-List.reduceReplicate, sOf_set, ofI_set, allU8_set, F13]
       repeat' apply And.intro
       any_goals (first | exact hG288 _ (by kernel_rfl) | refine hR288 _ _ _ ?_ | omega | (unfold maxLen; omega) | (simp [-List.reduceReplicate, sOf_set, ofI_set, allU8_set, F13]; done) | (simp [-List.reduceReplicate, sOf_set, ofI_set, allU8_set, F13]; omega))
       refine AW.wk [(8, AV.lst false false (List.map (AV.int .i64) v16)), (10, AV.lst false false (List.map (AV.int .i64) v24)), (12, AV.lst false false (List.map (AV.int .i64) v26)), (104, AV.bool true)] [] 6 (by simp [-List.reduceReplicate, sOf_set, ofI_set, allU8_set, F13]) (by simp [-List.reduceReplicate, sOf_set, ofI_set, allU8_set, F13]) (by simp) ?_
       refine AW.condT (by decide) (by simp [-List.reduceReplicate, sOf_set, ofI_set, allU8_set, F13]) ?_
       refine AW.seqR mixed [] [none] (by kernel_rfl) fun G289 R289 hG289 hR289 => ?_
       try simp [-List.reduceReplicate, sOf_set, ofI_set, allU8_set, F13]
       repeat' apply And.intro
       any_goals (first | exact hG289 _ (by kernel_rfl) | refine hR289 _ _ _ ?_ | omega | (unfold maxLen; omega) | (simp [-List.reduceReplicate, sOf_set, ofI_set, allU8_set, F13]; done) | (simp [-List.reduceReplicate, sOf_set, ofI_set, allU8_set, F13]; omega))
       refine AW.wk [(4, AV.bool false)] [] 6 (by simp [-List.reduceReplicate, sOf_set, ofI_set, allU8_set, F13]) (by simp [-List.reduceReplicate, sOf_set, ofI_set, allU8_set, F13]) (by simp) ?_
       simp only [Option.some.injEq] at hF
       subst hF
       refine AW.ret (hQ _ _ _ ?_ (matchO_0 ?_)).1
       ·simp [Try.f11, F13]
       ·simp [F13]
      ·replace hF := ite_f h24 hF
       have h24q : v27 = 0 := Classical.not_not.1 h24
       have h24_ := eqb_t h24q
       have h24__ := neb_f h24q
       obtain ⟨v30, h25, hF⟩ := let1_elim hF
       have h25_ := h25
       try simp [-List.reduceReplicate] at h25_
       have F14 := And.intro F12 (And.intro h24_ (And.intro h24__ (And.intro h24q (And.intro h25 h25_))))
       try simp [-List.reduceReplicate, sOf_set, ofI_set, allU8_set, F14]
       repeat' apply And.intro
       any_goals (first | exact hG288 _ (by kernel_rfl) | refine hR288 _ _ _ ?_ | omega | (unfold maxLen; omega) | (simp [-List.reduceReplicate, sOf_set, ofI_set, allU8_set, F14]; done) | (simp [-List.reduceReplicate, sOf_set, ofI_set, allU8_set, F14]; omega))
       refine AW.wk [(8, AV.lst false false (List.map (AV.int .i64) v16)), (10, AV.lst false false (List.map (AV.int .i64) v24)), (12, AV.lst false false (List.map (AV.int .i64) v26)), (104, AV.bool ((v26.length : Int) != v30))] [] 6 (by simp [-List.reduceReplicate, sOf_set, ofI_set, allU8_set, F14]) (by simp [-List.reduceReplicate, sOf_set, ofI_set, allU8_set, F14]) (by simp) ?_
       by_cases h26 : (v26.length : Int) ≠ v30
       ·replace hF := ite_t h26 hF
        have h26_ := eqb_f h26
        have h26__ := neb_t h26
        have F15 := And.intro F14 (And.intro h26 (And.intro h26_ h26__))
        refine AW.condT (by decide) (by first | (simp [-List.reduceReplicate, sOf_set, ofI_set, allU8_set, F15]; done) | (simp [-List.reduceReplicate, sOf_set, ofI_set, allU8_set, F15]; omega)) ?_
        refine AW.seqR mixed [] [none] (by kernel_rfl) fun G290 R290 hG290 hR290 => ?_
        try simp [-List.reduceReplicate, sOf_set, ofI_set, allU8_set, F15]
        repeat' apply And.intro
        any_goals (first | exact hG290 _ (by kernel_rfl) | refine hR290 _ _ _ ?_ | omega | (unfold maxLen; omega) | (simp [-List.reduceReplicate, sOf_set, ofI_set, allU8_set, F15]; done) | (simp [-List.reduceReplicate, sOf_set, ofI_set, allU8_set, F15]; omega))
        refine AW.wk [(4, AV.bool false)] [] 6 (by simp [-List.reduceReplicate, sOf_set, ofI_set, allU8_set, F15]) (by simp [-List.reduceReplicate, sOf_set, ofI_set, allU8_set, F15]) (by simp) ?_
        simp only [Option.some.injEq] at hF
        subst hF
        refine AW.ret (hQ _ _ _ ?_ (matchO_0 ?_)).1
        ·simp [Try.f11, F15]
        ·simp [F15]
       ·replace hF := ite_f h26 hF
        have h26q : (v26.length : Int) = v30 := Classical.not_not.1 h26
        have h26_ := eqb_t h26q
        have h26__ := neb_f h26q
        have F16 := And.intro F14 (And.intro h26_ h26__)
        refine AW.condF (by decide) (by first | (simp [-List.reduceReplicate, sOf_set, ofI_set, allU8_set, F16]; done) | (simp [-List.reduceReplicate, sOf_set, ofI_set, allU8_set, F16]; omega)) ?_
        refine AW.skip ?_
        refine hK287 _ _ _ ?_
        refine AW.seqR mixed [107] [none, none, none, none, none, none] (by kernel_rfl) fun G291 R291 hG291 hR291 => ?_
        obtain ⟨h27, hF⟩ := chk_elim hF
        have h27_ := h27
        try simp [-List.reduceReplicate] at h27_
        obtain ⟨h28, hF⟩ := chk_elim hF
        have h28_ := h28
        try simp [-List.reduceReplicate] at h28_
        have F17 := And.intro F16 (And.intro h27 h28)
        try simp [-List.reduceReplicate, sOf_set, ofI_set, allU8_set, F17]
        repeat' apply And.intro
        any_goals (first | exact hG291 _ (by kernel_rfl) | refine hR291 _ _ _ ?_ | omega | (unfold maxLen; omega) | (simp [-List.reduceReplicate, sOf_set, ofI_set, allU8_set, F17]; done) | (simp [-List.reduceReplicate, sOf_set, ofI_set, allU8_set, F17]; omega))
        refine AW.wk [(8, AV.lst false false (List.map (AV.int .i64) v16)), (14, AV.slc 7 0 1 ((v24 ++ v26).length) false)] [(7, .grow (List.map (AV.int .i64) (v24 ++ v26)))] 8 (by simp [-List.reduceReplicate, sOf_set, ofI_set, allU8_set, F17] <;> omega) (by simp [-List.reduceReplicate, sOf_set, ofI_set, allU8_set, F17]) (by simp) ?_
        refine AW.frz 7 (o := .grow (List.map (AV.int .i64) (v24 ++ v26))) (by simp [-List.reduceReplicate, sOf_set, ofI_set, allU8_set, F17]) rfl [(14, AV.lst false false (List.map (AV.int .i64) (v24 ++ v26)))] [] ⟨(.l (by simp) (by simp) (by simp) (by simp)), trivial⟩ trivial ?_
        refine AW.wk [(8, AV.lst false false (List.map (AV.int .i64) v16)), (14, AV.lst false false (List.map (AV.int .i64) (v24 ++ v26)))] [] 8 (by simp [-List.reduceReplicate, sOf_set, ofI_set, allU8_set, F17]) (by simp [-List.reduceReplicate, sOf_set, ofI_set, allU8_set, F17]) (by simp) ?_
        refine AW.seq fun K338 hK338 => ?_
        refine AW.seqR mixed [] [none] (by kernel_rfl) fun G339 R339 hG339 hR339 => ?_
        try simp [-List.reduceReplicate, sOf_set, ofI_set, allU8_set, F17]
        repeat' apply And.intro
        any_goals (first | exact hG339 _ (by kernel_rfl) | refine hR339 _ _ _ ?_ | omega | (unfold maxLen; omega) | (simp [-List.reduceReplicate, sOf_set, ofI_set, allU8_set, F17]; done) | (simp [-List.reduceReplicate, sOf_set, ofI_set, allU8_set, F17]; omega))
        refine AW.wk [(8, AV.lst false false (List.map (AV.int .i64) v16)), (14, AV.lst false false (List.map (AV.int .i64) (v24 ++ v26))), (15, AV.int .i64 0)] [] 8 (by simp [-List.reduceReplicate, sOf_set, ofI_set, allU8_set, F17]) (by simp [-List.reduceReplicate, sOf_set, ofI_set, allU8_set, F17]) (by simp) ?_
        refine AW.block ?_
        refine AW.rnm (m := 0) h0 [] [(8, AV.lst false false (List.map (AV.int .i64) v16)), (14, AV.lst false false (List.map (AV.int .i64) (v24 ++ v26))), (15, AV.int .i64 0)] [] 0 (by decide) (by decide) (by decide) rfl (by simp [-List.reduceReplicate, sOf_set, ofI_set, allU8_set, F17]) (by simp [-List.reduceReplicate, sOf_set, ofI_set, allU8_set, F17]) ?_
        refine AW.loopF (α := Int) (fun n v31 => law26_CommitteeApart.L1 k v16 v24 v26 n v31 = some v2) (fun v31 => [(8, AV.lst false false (List.map (AV.int .i64) v16)), (14, AV.lst false false (List.map (AV.int .i64) (v24 ++ v26))), (15, AV.int .i64 v31)]) (fun v31 => []) 0 k (0) hF (by simp [-List.reduceReplicate, sOf_set, ofI_set, allU8_set, F17]) (by simp [-List.reduceReplicate, sOf_set, ofI_set, allU8_set, F17]) (by simp) ?_
        rintro (_|n1) v31 hF K373 hK373
        ·try dsimp only at hF
         rw [law26_CommitteeApart.L1] at hF; cases hF
        try dsimp only at hF
        rw [law26_CommitteeApart.L1] at hF
        refine AW.seq fun K375 hK375 => ?_
        refine AW.seqR mixed [] [none, none, none, none] (by kernel_rfl) fun G376 R376 hG376 hR376 => ?_
        try simp [-List.reduceReplicate, sOf_set, ofI_set, allU8_set, F17]
        repeat' apply And.intro
        any_goals (first | exact hG376 _ (by kernel_rfl) | refine hR376 _ _ _ ?_ | omega | (unfold maxLen; omega) | (simp [-List.reduceReplicate, sOf_set, ofI_set, allU8_set, F17]; done) | (simp [-List.reduceReplicate, sOf_set, ofI_set, allU8_set, F17]; omega))
        refine AW.wk [(8, AV.lst false false (List.map (AV.int .i64) v16)), (14, AV.lst false false (List.map (AV.int .i64) (v24 ++ v26))), (15, AV.int .i64 v31), (113, AV.bool (decide (v31 < ((v24 ++ v26).length : Int))))] [] 0 (by simp [-List.reduceReplicate, sOf_set, ofI_set, allU8_set, F17]) (by simp [-List.reduceReplicate, sOf_set, ofI_set, allU8_set, F17]) (by simp) ?_
        by_cases h29 : v31 < ((v24 ++ v26).length : Int)
        ·replace hF := ite_t h29 hF
         have h29_ := h29
         try simp [-List.reduceReplicate] at h29_
         have F18 := And.intro F17 (And.intro h29 h29_)
         refine AW.condT (by decide) (by first | (simp [-List.reduceReplicate, sOf_set, ofI_set, allU8_set, F18]; done) | (simp [-List.reduceReplicate, sOf_set, ofI_set, allU8_set, F18]; omega)) ?_
         refine AW.skip ?_
         refine hK375 _ _ _ ?_
         refine AW.seq fun K380 hK380 => ?_
         refine AW.block ?_
         refine AW.seqR mixed [] [none, none, none, none, none, none, none, none, some (123, false), some (123, false), some (123, false), some (123, false), some (123, false), some (123, false), some (123, false), some (123, false), none] (by kernel_rfl) fun G381 R381 hG381 hR381 => ?_
         obtain ⟨v32, h30, h31, h32, hF⟩ := idx_elim hF
         have h32_ := get_of h32
         try simp [-List.reduceReplicate] at h32_
         have h31_ := h31
         try simp [-List.reduceReplicate] at h31_
         have h32__ := get_of (map_get ((AV.int .i64)) h32)
         try simp at h32__
         have F19 := And.intro F18 (And.intro h30 (And.intro h31 (And.intro h32 (And.intro h32_ (And.intro h31_ h32__)))))
         try simp [-List.reduceReplicate, sOf_set, ofI_set, allU8_set, F19]
         repeat' apply And.intro
         try any_goals (first | omega | (unfold maxLen; omega) | (simp [-List.reduceReplicate, sOf_set, ofI_set, allU8_set, F19]; done))
         obtain ⟨v33, h33, hF⟩ := bnd1_elim hF
         refine aCall_l (w_ref24_Has k _ _ _ h33) (by simp) [] [] [] rfl (.cons (.same (by simp [-List.reduceReplicate, sOf_set, ofI_set, allU8_set, F19])) (.cons (.same (by simp [-List.reduceReplicate, sOf_set, ofI_set, allU8_set, F19])) .nil)) (by simp [-List.reduceReplicate, sOf_set, ofI_set, allU8_set, F19]) (by decide) (by simp) (by simp) (.inl rfl) (by simp) (by simp) ?_
         by_cases h34 : (!v33) = true
         ·replace hF := ite_t h34 hF
          have h34_ := h34
          try simp [-List.reduceReplicate] at h34_
          have F20 := And.intro F19 (And.intro h34 h34_)
          try simp [-List.reduceReplicate, sOf_set, ofI_set, allU8_set, F20]
          repeat' apply And.intro
          any_goals (first | exact hG381 _ (by kernel_rfl) | refine hR381 _ _ _ ?_ | omega | (unfold maxLen; omega) | (simp [-List.reduceReplicate, sOf_set, ofI_set, allU8_set, F20]; done) | (simp [-List.reduceReplicate, sOf_set, ofI_set, allU8_set, F20]; omega))
          refine AW.wk [(8, AV.lst false false (List.map (AV.int .i64) v16)), (14, AV.lst false false (List.map (AV.int .i64) (v24 ++ v26))), (15, AV.int .i64 v31), (132, AV.bool true)] [] 0 (by simp [-List.reduceReplicate, sOf_set, ofI_set, allU8_set, F20]) (by simp [-List.reduceReplicate, sOf_set, ofI_set, allU8_set, F20]) (by simp) ?_
          refine AW.condT (by decide) (by simp [-List.reduceReplicate, sOf_set, ofI_set, allU8_set, F20]) ?_
          refine AW.seqR mixed [] [none] (by kernel_rfl) fun G382 R382 hG382 hR382 => ?_
          try simp [-List.reduceReplicate, sOf_set, ofI_set, allU8_set, F20]
          repeat' apply And.intro
          any_goals (first | exact hG382 _ (by kernel_rfl) | refine hR382 _ _ _ ?_ | omega | (unfold maxLen; omega) | (simp [-List.reduceReplicate, sOf_set, ofI_set, allU8_set, F20]; done) | (simp [-List.reduceReplicate, sOf_set, ofI_set, allU8_set, F20]; omega))
          refine AW.wk [(4, AV.bool false)] [] 0 (by simp [-List.reduceReplicate, sOf_set, ofI_set, allU8_set, F20]) (by simp [-List.reduceReplicate, sOf_set, ofI_set, allU8_set, F20]) (by simp) ?_
          simp only [Option.some.injEq] at hF
          subst hF
          refine AW.ret (hQ _ _ _ ?_ (matchO_0 ?_)).1
          ·simp [Try.f11, F20]
          ·simp [F20]
         ·replace hF := ite_f h34 hF
          have h34_ := h34
          try simp [-List.reduceReplicate] at h34_
          obtain ⟨⟨h35, h36⟩, hF⟩ := chk_elim hF
          have h35_ := h35
          try simp [-List.reduceReplicate] at h35_
          have h36_ := h36
          try simp [-List.reduceReplicate] at h36_
          have F21 := And.intro F19 (And.intro h34 (And.intro h34_ (And.intro h35 (And.intro h36 (And.intro h35_ h36_)))))
          try simp [-List.reduceReplicate, sOf_set, ofI_set, allU8_set, F21]
          repeat' apply And.intro
          try any_goals (first | omega | (unfold maxLen; omega) | (simp [-List.reduceReplicate, sOf_set, ofI_set, allU8_set, F21]; done))
          obtain ⟨v34, h37, hF⟩ := bnd1_elim hF
          refine aCall_l (w_ref24_Has k _ _ _ h37) (by simp) [] [] [] rfl (.cons (.same (by simp [-List.reduceReplicate, sOf_set, ofI_set, allU8_set, F21])) (.cons (.same (by simp [-List.reduceReplicate, sOf_set, ofI_set, allU8_set, F21])) .nil)) (by simp [-List.reduceReplicate, sOf_set, ofI_set, allU8_set, F21]) (by decide) (by simp) (by simp) (.inl rfl) (by simp) (by simp) ?_
          try simp [-List.reduceReplicate, sOf_set, ofI_set, allU8_set, F21]
          repeat' apply And.intro
          any_goals (first | exact hG381 _ (by kernel_rfl) | refine hR381 _ _ _ ?_ | omega | (unfold maxLen; omega) | (simp [-List.reduceReplicate, sOf_set, ofI_set, allU8_set, F21]; done) | (simp [-List.reduceReplicate, sOf_set, ofI_set, allU8_set, F21]; omega))
          refine AW.wk [(8, AV.lst false false (List.map (AV.int .i64) v16)), (14, AV.lst false false (List.map (AV.int .i64) (v24 ++ v26))), (15, AV.int .i64 v31), (132, AV.bool v34)] [] 0 (by simp [-List.reduceReplicate, sOf_set, ofI_set, allU8_set, F21]) (by simp [-List.reduceReplicate, sOf_set, ofI_set, allU8_set, F21]) (by simp) ?_
          by_cases h38 : v34 = true
          ·replace hF := ite_t h38 hF
           have h38_ := h38
           try simp [-List.reduceReplicate] at h38_
           have F22 := And.intro F21 (And.intro h38 h38_)
           refine AW.condT (by decide) (by first | (simp [-List.reduceReplicate, sOf_set, ofI_set, allU8_set, F22]; done) | (simp [-List.reduceReplicate, sOf_set, ofI_set, allU8_set, F22]; omega)) ?_
           refine AW.seqR mixed [] [none] (by kernel_rfl) fun G383 R383 hG383 hR383 => ?_
           try simp [-List.reduceReplicate, sOf_set, ofI_set, allU8_set, F22]
           repeat' apply And.intro
           any_goals (first | exact hG383 _ (by kernel_rfl) | refine hR383 _ _ _ ?_ | omega | (unfold maxLen; omega) | (simp [-List.reduceReplicate, sOf_set, ofI_set, allU8_set, F22]; done) | (simp [-List.reduceReplicate, sOf_set, ofI_set, allU8_set, F22]; omega))
           refine AW.wk [(4, AV.bool false)] [] 0 (by simp [-List.reduceReplicate, sOf_set, ofI_set, allU8_set, F22]) (by simp [-List.reduceReplicate, sOf_set, ofI_set, allU8_set, F22]) (by simp) ?_
           simp only [Option.some.injEq] at hF
           subst hF
           refine AW.ret (hQ _ _ _ ?_ (matchO_0 ?_)).1
           ·simp [Try.f11, F22]
           ·simp [F22]
          ·replace hF := ite_f h38 hF
           have h38_ := h38
           try simp [-List.reduceReplicate] at h38_
           have F23 := And.intro F21 (And.intro h38 h38_)
           refine AW.condF (by decide) (by first | (simp [-List.reduceReplicate, sOf_set, ofI_set, allU8_set, F23]; done) | (simp [-List.reduceReplicate, sOf_set, ofI_set, allU8_set, F23]; omega)) ?_
           refine AW.skip ?_
           refine hK380 _ _ _ ?_
           refine AW.region mixed [] [none, none, none] (by kernel_rfl) fun G384 R384 hG384 hR384 => ?_
           try simp [-List.reduceReplicate, sOf_set, ofI_set, allU8_set, F23]
           repeat' apply And.intro
           any_goals (first | exact hG384 _ (by kernel_rfl) | refine hR384 _ _ _ ?_ | omega | (unfold maxLen; omega) | (simp [-List.reduceReplicate, sOf_set, ofI_set, allU8_set, F23]; done) | (simp [-List.reduceReplicate, sOf_set, ofI_set, allU8_set, F23]; omega))
           refine hK373 _ _ _ ?_
           refine Can.weak [(8, AV.lst false false (List.map (AV.int .i64) v16)), (14, AV.lst false false (List.map (AV.int .i64) (v24 ++ v26))), (15, AV.int .i64 (IntKind.wrap .i64 (v31 + 1)))] [] 0 (by simp [-List.reduceReplicate, sOf_set, ofI_set, allU8_set, F23]) (by simp [-List.reduceReplicate, sOf_set, ofI_set, allU8_set, F23]) (by simp) ?_
           exact Can.next (k' := n1) (IntKind.wrap .i64 (v31 + 1)) (by omega) hF (by simp [-List.reduceReplicate, sOf_set, ofI_set, allU8_set, F23]) (by simp [-List.reduceReplicate, sOf_set, ofI_set, allU8_set, F23]) (by simp)
        ·replace hF := ite_f h29 hF
         have h29_ := h29
         try simp [-List.reduceReplicate] at h29_
         have F24 := And.intro F17 (And.intro h29 h29_)
         refine AW.condF (by decide) (by first | (simp [-List.reduceReplicate, sOf_set, ofI_set, allU8_set, F24]; done) | (simp [-List.reduceReplicate, sOf_set, ofI_set, allU8_set, F24]; omega)) ?_
         refine AW.exit ?_
         try simp [-List.reduceReplicate]
         refine hK338 _ _ _ ?_
         refine AW.seq fun K447 hK447 => ?_
         refine AW.seqR mixed [] [none] (by kernel_rfl) fun G448 R448 hG448 hR448 => ?_
         try simp [-List.reduceReplicate, sOf_set, ofI_set, allU8_set, F24]
         repeat' apply And.intro
         any_goals (first | exact hG448 _ (by kernel_rfl) | refine hR448 _ _ _ ?_ | omega | (unfold maxLen; omega) | (simp [-List.reduceReplicate, sOf_set, ofI_set, allU8_set, F24]; done) | (simp [-List.reduceReplicate, sOf_set, ofI_set, allU8_set, F24]; omega))
         refine AW.wk [(16, AV.int .i64 1)] [] 0 (by simp [-List.reduceReplicate, sOf_set, ofI_set, allU8_set, F24]) (by simp [-List.reduceReplicate, sOf_set, ofI_set, allU8_set, F24]) (by simp) ?_
         refine AW.block ?_
         refine AW.loopF (α := Int) (fun n v35 => law26_CommitteeApart.L2 k n v35 = some v2) (fun v35 => [(16, AV.int .i64 v35)]) (fun v35 => []) 0 k (1) hF (by simp [-List.reduceReplicate, sOf_set, ofI_set, allU8_set, F24]) (by simp [-List.reduceReplicate, sOf_set, ofI_set, allU8_set, F24]) (by simp) ?_
         rintro (_|n2) v35 hF K494 hK494
         ·try dsimp only at hF
          rw [law26_CommitteeApart.L2] at hF; cases hF
         try dsimp only at hF
         rw [law26_CommitteeApart.L2] at hF
         refine AW.seq fun K496 hK496 => ?_
         refine AW.seqR mixed [] [none, none] (by kernel_rfl) fun G497 R497 hG497 hR497 => ?_
         try simp [-List.reduceReplicate, sOf_set, ofI_set, allU8_set, F24]
         repeat' apply And.intro
         any_goals (first | exact hG497 _ (by kernel_rfl) | refine hR497 _ _ _ ?_ | omega | (unfold maxLen; omega) | (simp [-List.reduceReplicate, sOf_set, ofI_set, allU8_set, F24]; done) | (simp [-List.reduceReplicate, sOf_set, ofI_set, allU8_set, F24]; omega))
         refine AW.wk [(16, AV.int .i64 v35), (134, AV.bool (decide (v35 ≤ 9)))] [] 0 (by simp [-List.reduceReplicate, sOf_set, ofI_set, allU8_set, F24]) (by simp [-List.reduceReplicate, sOf_set, ofI_set, allU8_set, F24]) (by simp) ?_
         by_cases h39 : v35 ≤ 9
         ·replace hF := ite_t h39 hF
          have h39_ := h39
          try simp [-List.reduceReplicate] at h39_
          have F25 := And.intro F24 (And.intro h39 h39_)
          refine AW.condT (by decide) (by first | (simp [-List.reduceReplicate, sOf_set, ofI_set, allU8_set, F25]; done) | (simp [-List.reduceReplicate, sOf_set, ofI_set, allU8_set, F25]; omega)) ?_
          refine AW.skip ?_
          refine hK496 _ _ _ ?_
          refine AW.midF (α := Unit) (fun _ => law26_CommitteeApart.J3 k v35 (fun v35_ => law26_CommitteeApart.L2 k n2 v35_) = some v2) (fun _ => [(16, AV.int .i64 v35)]) (fun _ => []) 0 (fun K504 hK504 => ?_) ?_
          ·refine AW.block ?_
           refine AW.seqR mixed [] [none, none, none] (by kernel_rfl) fun G505 R505 hG505 hR505 => ?_
           try simp [-List.reduceReplicate, sOf_set, ofI_set, allU8_set, F25]
           repeat' apply And.intro
           try any_goals (first | omega | (unfold maxLen; omega) | (simp [-List.reduceReplicate, sOf_set, ofI_set, allU8_set, F25]; done))
           obtain ⟨v36, h40, hF⟩ := bnd1_elim hF
           refine aCall_l (w_committee_Quorum k _ _ h40) (by simp) [] [] [] rfl (.cons (.same (by simp [-List.reduceReplicate, sOf_set, ofI_set, allU8_set, F25])) .nil) (by simp [-List.reduceReplicate, sOf_set, ofI_set, allU8_set, F25]) (by decide) (by simp) (by simp) (.inl rfl) (by simp) (by simp) ?_
           try simp [-List.reduceReplicate, sOf_set, ofI_set, allU8_set, F25]
           repeat' apply And.intro
           any_goals (first | exact hG505 _ (by kernel_rfl) | refine hR505 _ _ _ ?_ | omega | (unfold maxLen; omega) | (simp [-List.reduceReplicate, sOf_set, ofI_set, allU8_set, F25]; done) | (simp [-List.reduceReplicate, sOf_set, ofI_set, allU8_set, F25]; omega))
           refine AW.wk [(16, AV.int .i64 v35), (17, AV.int .i64 v36)] [] 0 (by simp [-List.reduceReplicate, sOf_set, ofI_set, allU8_set, F25]) (by simp [-List.reduceReplicate, sOf_set, ofI_set, allU8_set, F25]) (by simp) ?_
           refine AW.seqR mixed [] [none, none, none, none, none, none, none, none, some (146, false), some (146, false), some (146, false), some (146, false), none, none, some (152, false), some (152, false), some (152, false), some (155, true), some (155, true), some (155, true), some (155, true), some (152, false), none] (by kernel_rfl) fun G506 R506 hG506 hR506 => ?_
           by_cases h41 : IntKind.wrap .i64 (2 * IntKind.wrap .i64 (IntKind.wrap .i64 (2 * v36) - v35)) ≤ v35
           ·replace hF := ite_t h41 hF
            have h41_ := h41
            try simp [-List.reduceReplicate] at h41_
            have F26 := And.intro F25 (And.intro h41 h41_)
            try simp [-List.reduceReplicate, sOf_set, ofI_set, allU8_set, F26]
            repeat' apply And.intro
            any_goals (first | exact hG506 _ (by kernel_rfl) | refine hR506 _ _ _ ?_ | omega | (unfold maxLen; omega) | (simp [-List.reduceReplicate, sOf_set, ofI_set, allU8_set, F26]; done) | (simp [-List.reduceReplicate, sOf_set, ofI_set, allU8_set, F26]; omega))
            refine AW.wk [(16, AV.int .i64 v35), (161, AV.bool true)] [] 0 (by simp [-List.reduceReplicate, sOf_set, ofI_set, allU8_set, F26]) (by simp [-List.reduceReplicate, sOf_set, ofI_set, allU8_set, F26]) (by simp) ?_
            refine AW.condT (by decide) (by simp [-List.reduceReplicate, sOf_set, ofI_set, allU8_set, F26]) ?_
            refine AW.seqR mixed [] [none] (by kernel_rfl) fun G507 R507 hG507 hR507 => ?_
            try simp [-List.reduceReplicate, sOf_set, ofI_set, allU8_set, F26]
            repeat' apply And.intro
            any_goals (first | exact hG507 _ (by kernel_rfl) | refine hR507 _ _ _ ?_ | omega | (unfold maxLen; omega) | (simp [-List.reduceReplicate, sOf_set, ofI_set, allU8_set, F26]; done) | (simp [-List.reduceReplicate, sOf_set, ofI_set, allU8_set, F26]; omega))
            refine AW.wk [(4, AV.bool false)] [] 0 (by simp [-List.reduceReplicate, sOf_set, ofI_set, allU8_set, F26]) (by simp [-List.reduceReplicate, sOf_set, ofI_set, allU8_set, F26]) (by simp) ?_
            simp only [Option.some.injEq] at hF
            subst hF
            refine AW.ret (hQ _ _ _ ?_ (matchO_0 ?_)).1
            ·simp [Try.f11, F26]
            ·simp [F26]
           ·replace hF := ite_f h41 hF
            have h41_ := h41
            try simp [-List.reduceReplicate] at h41_
            have F27 := And.intro F25 (And.intro h41 h41_)
            try simp [-List.reduceReplicate, sOf_set, ofI_set, allU8_set, F27]
            repeat' apply And.intro
            try any_goals (first | omega | (unfold maxLen; omega) | (simp [-List.reduceReplicate, sOf_set, ofI_set, allU8_set, F27]; done))
            obtain ⟨v37, h42, hF⟩ := bnd1_elim hF
            refine aCall_l (w_committee_Enough k _ _ _ h42) (by simp) [] [] [] rfl (.cons (.same (by simp [-List.reduceReplicate, sOf_set, ofI_set, allU8_set, F27])) (.cons (.same (by simp [-List.reduceReplicate, sOf_set, ofI_set, allU8_set, F27])) .nil)) (by simp [-List.reduceReplicate, sOf_set, ofI_set, allU8_set, F27]) (by decide) (by simp) (by simp) (.inl rfl) (by simp) (by simp) ?_
            by_cases h43 : (!v37) = true
            ·replace hF := ite_t h43 hF
             have h43_ := h43
             try simp [-List.reduceReplicate] at h43_
             have F28 := And.intro F27 (And.intro h43 h43_)
             try simp [-List.reduceReplicate, sOf_set, ofI_set, allU8_set, F28]
             repeat' apply And.intro
             any_goals (first | exact hG506 _ (by kernel_rfl) | refine hR506 _ _ _ ?_ | omega | (unfold maxLen; omega) | (simp [-List.reduceReplicate, sOf_set, ofI_set, allU8_set, F28]; done) | (simp [-List.reduceReplicate, sOf_set, ofI_set, allU8_set, F28]; omega))
             refine AW.wk [(16, AV.int .i64 v35), (161, AV.bool true)] [] 0 (by simp [-List.reduceReplicate, sOf_set, ofI_set, allU8_set, F28]) (by simp [-List.reduceReplicate, sOf_set, ofI_set, allU8_set, F28]) (by simp) ?_
             refine AW.condT (by decide) (by simp [-List.reduceReplicate, sOf_set, ofI_set, allU8_set, F28]) ?_
             refine AW.seqR mixed [] [none] (by kernel_rfl) fun G508 R508 hG508 hR508 => ?_
             try simp [-List.reduceReplicate, sOf_set, ofI_set, allU8_set, F28]
             repeat' apply And.intro
             any_goals (first | exact hG508 _ (by kernel_rfl) | refine hR508 _ _ _ ?_ | omega | (unfold maxLen; omega) | (simp [-List.reduceReplicate, sOf_set, ofI_set, allU8_set, F28]; done) | (simp [-List.reduceReplicate, sOf_set, ofI_set, allU8_set, F28]; omega))
             refine AW.wk [(4, AV.bool false)] [] 0 (by simp [-List.reduceReplicate, sOf_set, ofI_set, allU8_set, F28]) (by simp [-List.reduceReplicate, sOf_set, ofI_set, allU8_set, F28]) (by simp) ?_
             simp only [Option.some.injEq] at hF
             subst hF
             refine AW.ret (hQ _ _ _ ?_ (matchO_0 ?_)).1
             ·simp [Try.f11, F28]
             ·simp [F28]
            ·replace hF := ite_f h43 hF
             have h43_ := h43
             try simp [-List.reduceReplicate] at h43_
             by_cases h44 : 1 < v36
             ·replace hF := ite_t h44 hF
              have h44_ := h44
              try simp [-List.reduceReplicate] at h44_
              have F29 := And.intro F27 (And.intro h43 (And.intro h43_ (And.intro h44 h44_)))
              try simp [-List.reduceReplicate, sOf_set, ofI_set, allU8_set, F29]
              repeat' apply And.intro
              try any_goals (first | omega | (unfold maxLen; omega) | (simp [-List.reduceReplicate, sOf_set, ofI_set, allU8_set, F29]; done))
              obtain ⟨v38, h45, hF⟩ := bnd1_elim hF
              refine aCall_l (w_committee_Enough k _ _ _ h45) (by simp) [] [] [] rfl (.cons (.same (by simp [-List.reduceReplicate, sOf_set, ofI_set, allU8_set, F29])) (.cons (.same (by simp [-List.reduceReplicate, sOf_set, ofI_set, allU8_set, F29])) .nil)) (by simp [-List.reduceReplicate, sOf_set, ofI_set, allU8_set, F29]) (by decide) (by simp) (by simp) (.inl rfl) (by simp) (by simp) ?_
              try simp [-List.reduceReplicate, sOf_set, ofI_set, allU8_set, F29]
              repeat' apply And.intro
              any_goals (first | exact hG506 _ (by kernel_rfl) | refine hR506 _ _ _ ?_ | omega | (unfold maxLen; omega) | (simp [-List.reduceReplicate, sOf_set, ofI_set, allU8_set, F29]; done) | (simp [-List.reduceReplicate, sOf_set, ofI_set, allU8_set, F29]; omega))
              refine AW.wk [(16, AV.int .i64 v35), (161, AV.bool v38)] [] 0 (by simp [-List.reduceReplicate, sOf_set, ofI_set, allU8_set, F29]) (by simp [-List.reduceReplicate, sOf_set, ofI_set, allU8_set, F29]) (by simp) ?_
              by_cases h46 : v38 = true
              ·replace hF := ite_t h46 hF
               have h46_ := h46
               try simp [-List.reduceReplicate] at h46_
               have F30 := And.intro F29 (And.intro h46 h46_)
               refine AW.condT (by decide) (by first | (simp [-List.reduceReplicate, sOf_set, ofI_set, allU8_set, F30]; done) | (simp [-List.reduceReplicate, sOf_set, ofI_set, allU8_set, F30]; omega)) ?_
               refine AW.seqR mixed [] [none] (by kernel_rfl) fun G509 R509 hG509 hR509 => ?_
               try simp [-List.reduceReplicate, sOf_set, ofI_set, allU8_set, F30]
               repeat' apply And.intro
               any_goals (first | exact hG509 _ (by kernel_rfl) | refine hR509 _ _ _ ?_ | omega | (unfold maxLen; omega) | (simp [-List.reduceReplicate, sOf_set, ofI_set, allU8_set, F30]; done) | (simp [-List.reduceReplicate, sOf_set, ofI_set, allU8_set, F30]; omega))
               refine AW.wk [(4, AV.bool false)] [] 0 (by simp [-List.reduceReplicate, sOf_set, ofI_set, allU8_set, F30]) (by simp [-List.reduceReplicate, sOf_set, ofI_set, allU8_set, F30]) (by simp) ?_
               simp only [Option.some.injEq] at hF
               subst hF
               refine AW.ret (hQ _ _ _ ?_ (matchO_0 ?_)).1
               ·simp [Try.f11, F30]
               ·simp [F30]
              ·replace hF := ite_f h46 hF
               have h46_ := h46
               try simp [-List.reduceReplicate] at h46_
               have F31 := And.intro F29 (And.intro h46 h46_)
               refine AW.condF (by decide) (by first | (simp [-List.reduceReplicate, sOf_set, ofI_set, allU8_set, F31]; done) | (simp [-List.reduceReplicate, sOf_set, ofI_set, allU8_set, F31]; omega)) ?_
               refine AW.skip ?_
               refine hK504 _ _ _ ?_
               exact Can.join (()) hF (by simp [-List.reduceReplicate, sOf_set, ofI_set, allU8_set, F31]) (by simp [-List.reduceReplicate, sOf_set, ofI_set, allU8_set, F31]) (by simp)
             ·replace hF := ite_f h44 hF
              have h44_ := h44
              try simp [-List.reduceReplicate] at h44_
              have F32 := And.intro F27 (And.intro h43 (And.intro h43_ (And.intro h44 h44_)))
              try simp [-List.reduceReplicate, sOf_set, ofI_set, allU8_set, F32]
              repeat' apply And.intro
              any_goals (first | exact hG506 _ (by kernel_rfl) | refine hR506 _ _ _ ?_ | omega | (unfold maxLen; omega) | (simp [-List.reduceReplicate, sOf_set, ofI_set, allU8_set, F32]; done) | (simp [-List.reduceReplicate, sOf_set, ofI_set, allU8_set, F32]; omega))
              refine AW.wk [(16, AV.int .i64 v35), (161, AV.bool false)] [] 0 (by simp [-List.reduceReplicate, sOf_set, ofI_set, allU8_set, F32]) (by simp [-List.reduceReplicate, sOf_set, ofI_set, allU8_set, F32]) (by simp) ?_
              refine AW.condF (by decide) (by simp [-List.reduceReplicate, sOf_set, ofI_set, allU8_set, F32]) ?_
              refine AW.skip ?_
              refine hK504 _ _ _ ?_
              exact Can.join (()) hF (by simp [-List.reduceReplicate, sOf_set, ofI_set, allU8_set, F32]) (by simp [-List.reduceReplicate, sOf_set, ofI_set, allU8_set, F32]) (by simp)
          ·rintro ⟨⟩ hF
           try dsimp only at hF
           unfold law26_CommitteeApart.J3 at hF
           refine AW.region mixed [] [none, none, none] (by kernel_rfl) fun G503 R503 hG503 hR503 => ?_
           try simp [-List.reduceReplicate, sOf_set, ofI_set, allU8_set, F25]
           repeat' apply And.intro
           any_goals (first | exact hG503 _ (by kernel_rfl) | refine hR503 _ _ _ ?_ | omega | (unfold maxLen; omega) | (simp [-List.reduceReplicate, sOf_set, ofI_set, allU8_set, F25]; done) | (simp [-List.reduceReplicate, sOf_set, ofI_set, allU8_set, F25]; omega))
           refine hK494 _ _ _ ?_
           refine Can.weak [(16, AV.int .i64 (IntKind.wrap .i64 (v35 + 1)))] [] 0 (by simp [-List.reduceReplicate, sOf_set, ofI_set, allU8_set, F25]) (by simp [-List.reduceReplicate, sOf_set, ofI_set, allU8_set, F25]) (by simp) ?_
           exact Can.next (k' := n2) (IntKind.wrap .i64 (v35 + 1)) (by omega) hF (by simp [-List.reduceReplicate, sOf_set, ofI_set, allU8_set, F25]) (by simp [-List.reduceReplicate, sOf_set, ofI_set, allU8_set, F25]) (by simp)
         ·replace hF := ite_f h39 hF
          have h39_ := h39
          try simp [-List.reduceReplicate] at h39_
          have F33 := And.intro F24 (And.intro h39 h39_)
          refine AW.condF (by decide) (by first | (simp [-List.reduceReplicate, sOf_set, ofI_set, allU8_set, F33]; done) | (simp [-List.reduceReplicate, sOf_set, ofI_set, allU8_set, F33]; omega)) ?_
          refine AW.exit ?_
          try simp [-List.reduceReplicate]
          refine hK447 _ _ _ ?_
          refine AW.seqR mixed [] [none, none] (by kernel_rfl) fun G510 R510 hG510 hR510 => ?_
          try simp [-List.reduceReplicate, sOf_set, ofI_set, allU8_set, F33]
          repeat' apply And.intro
          try any_goals (first | omega | (unfold maxLen; omega) | (simp [-List.reduceReplicate, sOf_set, ofI_set, allU8_set, F33]; done))
          obtain ⟨v39, h47, hF⟩ := bnd1_elim hF
          refine aCall_l (w_law26_awake k _ h47) (by simp) [] [] [] rfl .nil (by simp [-List.reduceReplicate, sOf_set, ofI_set, allU8_set, F33]) (by decide) (by simp) (by simp) (.inl rfl) (by simp) (by simp) ?_
          try simp [-List.reduceReplicate, sOf_set, ofI_set, allU8_set, F33]
          repeat' apply And.intro
          any_goals (first | exact hG510 _ (by kernel_rfl) | refine hR510 _ _ _ ?_ | omega | (unfold maxLen; omega) | (simp [-List.reduceReplicate, sOf_set, ofI_set, allU8_set, F33]; done) | (simp [-List.reduceReplicate, sOf_set, ofI_set, allU8_set, F33]; omega))
          refine AW.wk [(4, AV.bool v39)] [] 0 (by simp [-List.reduceReplicate, sOf_set, ofI_set, allU8_set, F33]) (by simp [-List.reduceReplicate, sOf_set, ofI_set, allU8_set, F33]) (by simp) ?_
          simp only [Option.some.injEq] at hF
          subst hF
          refine AW.ret (hQ _ _ _ ?_ (matchO_0 ?_)).1
          ·simp [Try.f11, F33]
          ·simp [F33]
end Go.TF
