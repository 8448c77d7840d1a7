/- Walks: the Go text computes the Lean functions (printed by a program of our own). -/
import Derived.Test.YtepdfenlkeaefaaJPu
import Derived.Test.YtepdfenlkeaefaaJAbsT
import Derived.Test.YtepdfenlkeaefaaJWa0
import Derived.Test.YtepdfenlkeaefaaJWa1
import Derived.Test.YtepdfenlkeaefaaJWa3
set_option linter.unusedVariables false
set_option linter.unusedSimpArgs false
set_option maxRecDepth 100000
namespace Go.TF
open Go Go.Abs Go.Proofs Go.Proofs.YtepdfenlkeaefaaJT
set_option maxHeartbeats 4000000 in
theorem w_digest_Sum (k : Nat) (v0 : (List Int)) (v1 : ByteArray) (hF : digest_Sum k v0 = some v1) :
  FCall Try.prog 14 [AV.lst false false (List.map (AV.int .u8) v0)] [] (AV.str v1) [] := by
 unfold digest_Sum at hF
 refine FCall.enter Try.func14 rfl (by simp) (by decide) (by simp) (by simp) (by simp) (by simp) (by simp) ?_
 intro c0 w0 Q h0 hQ
 refine AW.wk [(0, AV.lst false false (List.map (AV.int .u8) v0))] [] 0 (by simp) (by simp) (by simp) ?_
 refine AW.seqR mixed [] [none] (by kernel_rfl) fun G231 R231 hG231 hR231 => ?_
 try simp
 repeat' apply And.intro
 any_goals (first | exact hG231 _ (by kernel_rfl) | refine hR231 _ _ _ ?_ | omega | (unfold maxLen; omega) | (simp; done) | (simp; omega))
 refine AW.wk [(0, AV.lst false false (List.map (AV.int .u8) v0))] [] 0 (by simp) (by simp) (by simp) ?_
 refine AW.seqR mixed [12] [none, none, none, none, none] (by kernel_rfl) fun G232 R232 hG232 hR232 => ?_
 obtain ⟨h1, hF⟩ := chk_elim hF
 have h1_ := h1
 try simp at h1_
 obtain ⟨h2, hF⟩ := chk_elim hF
 have h2_ := h2
 try simp at h2_
 try simp [h1, h2]
 repeat' apply And.intro
 any_goals (first | exact hG232 _ (by kernel_rfl) | refine hR232 _ _ _ ?_ | omega | (unfold maxLen; omega) | (simp [h1, h2]; done) | (simp [h1, h2]; omega))
 refine AW.wk [(0, AV.lst false false (List.map (AV.int .u8) v0)), (3, AV.slc 1 0 1 ((v0 ++ ([128] : List Int)).length) false)] [(1, .grow (List.map (AV.int .u8) (v0 ++ ([128] : List Int))))] 2 (by simp [h1, h2] <;> omega) (by simp [h1, h2]) (by simp) ?_
 refine AW.seq fun K250 hK250 => ?_
 refine AW.block ?_
 refine AW.rnm (m := 0) h0 [(0, 1)] [(0, AV.lst false false (List.map (AV.int .u8) v0)), (3, AV.slc 0 0 1 ((v0 ++ ([128] : List Int)).length) false)] [(0, .grow (List.map (AV.int .u8) (v0 ++ ([128] : List Int))))] 1 (by decide) (by decide) (by decide) rfl (by simp [h1, h2]) (by simp [h1, h2]) ?_
 refine AW.loopF (α := (List Int)) (fun n v2 => digest_Sum.L1 k v0 n v2 = some v1) (fun v2 => [(0, AV.lst false false (List.map (AV.int .u8) v0)), (3, AV.slc 0 0 1 v2.length false)]) (fun v2 => [(0, .grow (List.map (AV.int .u8) v2))]) 1 k (v0 ++ ([128] : List Int)) hF (by simp [h1, h2]) (by simp [h1, h2]) (by simp) ?_
 rintro (_|n1) v2 hF K263 hK263
 ·try dsimp only at hF
  rw [digest_Sum.L1] at hF; cases hF
 try dsimp only at hF
 rw [digest_Sum.L1] at hF
 refine AW.seq fun K265 hK265 => ?_
 refine AW.seqR mixed [] [none, none, none, none] (by kernel_rfl) fun G266 R266 hG266 hR266 => ?_
 try simp [h1, h2]
 repeat' apply And.intro
 any_goals (first | exact hG266 _ (by kernel_rfl) | refine hR266 _ _ _ ?_ | omega | (unfold maxLen; omega) | (simp [h1, h2]; done) | (simp [h1, h2]; omega))
 refine AW.wk [(0, AV.lst false false (List.map (AV.int .u8) v0)), (3, AV.slc 0 0 1 v2.length false), (18, AV.bool ((Int.tmod (v2.length : Int) 64) != 56))] [(0, .grow (List.map (AV.int .u8) v2))] 1 (by simp [h1, h2]) (by simp [h1, h2]) (by simp) ?_
 by_cases h3 : (Int.tmod (v2.length : Int) 64) ≠ 56
 ·replace hF := ite_t h3 hF
  have h3_ := eqb_f h3
  have h3__ := neb_t h3
  have F1 := And.intro h1 (And.intro h2 (And.intro h3 (And.intro h3_ h3__)))
  refine AW.condT (by decide) (by first | (simp [F1]; done) | (simp [F1]; omega)) ?_
  refine AW.skip ?_
  refine hK265 _ _ _ ?_
  refine AW.block ?_
  refine AW.region mixed [] [none, none, none, none] (by kernel_rfl) fun G267 R267 hG267 hR267 => ?_
  obtain ⟨h4, hF⟩ := chk_elim hF
  have h4_ := h4
  try simp at h4_
  have F2 := And.intro F1 h4
  try simp [F2]
  repeat' apply And.intro
  any_goals (first | exact hG267 _ (by kernel_rfl) | refine hR267 _ _ _ ?_ | omega | (unfold maxLen; omega) | (simp [F2]; done) | (simp [F2]; omega))
  refine hK263 _ _ _ ?_
  refine Can.weak [(0, AV.lst false false (List.map (AV.int .u8) v0)), (3, AV.slc 1 0 1 ((v2 ++ ([0] : List Int)).length) false)] [(1, .grow (List.map (AV.int .u8) (v2 ++ ([0] : List Int))))] 2 (by simp [F2] <;> omega) (by simp [F2]) (by simp) ?_
  refine Can.ren (m := 0) h0 [(0, 1)] [(0, AV.lst false false (List.map (AV.int .u8) v0)), (3, AV.slc 0 0 1 ((v2 ++ ([0] : List Int)).length) false)] [(0, .grow (List.map (AV.int .u8) (v2 ++ ([0] : List Int))))] 1 (by decide) (by decide) (by decide) rfl (by simp [F2]) (by simp [F2]) ?_
  exact Can.next (k' := n1) (v2 ++ ([0] : List Int)) (by omega) hF (by simp [F2]) (by simp [F2]) (by simp)
 ·replace hF := ite_f h3 hF
  have h3q : (Int.tmod (v2.length : Int) 64) = 56 := Classical.not_not.1 h3
  have h3_ := eqb_t h3q
  have h3__ := neb_f h3q
  have F3 := And.intro h1 (And.intro h2 (And.intro h3_ (And.intro h3__ h3q)))
  refine AW.condF (by decide) (by first | (simp [F3]; done) | (simp [F3]; omega)) ?_
  refine AW.exit ?_
  try simp
  refine hK250 _ _ _ ?_
  refine AW.seqR mixed [] [none, none, none, none, none] (by kernel_rfl) fun G268 R268 hG268 hR268 => ?_
  try simp [F3]
  repeat' apply And.intro
  any_goals (first | exact hG268 _ (by kernel_rfl) | refine hR268 _ _ _ ?_ | omega | (unfold maxLen; omega) | (simp [F3]; done) | (simp [F3]; omega))
  refine AW.wk [(3, AV.slc 0 0 1 v2.length false), (4, AV.int .u64 (IntKind.wrap .u64 (IntKind.wrap .u64 (v0.length : Int) * 8)))] [(0, .grow (List.map (AV.int .u8) v2))] 1 (by simp [F3]) (by simp [F3]) (by simp) ?_
  refine AW.seq fun K299 hK299 => ?_
  refine AW.seqR mixed [] [none] (by kernel_rfl) fun G300 R300 hG300 hR300 => ?_
  try simp [F3]
  repeat' apply And.intro
  any_goals (first | exact hG300 _ (by kernel_rfl) | refine hR300 _ _ _ ?_ | omega | (unfold maxLen; omega) | (simp [F3]; done) | (simp [F3]; omega))
  refine AW.wk [(3, AV.slc 0 0 1 v2.length false), (4, AV.int .u64 (IntKind.wrap .u64 (IntKind.wrap .u64 (v0.length : Int) * 8))), (5, AV.int .i64 56)] [(0, .grow (List.map (AV.int .u8) v2))] 1 (by simp [F3]) (by simp [F3]) (by simp) ?_
  refine AW.block ?_
  refine AW.loopF (α := (Int × (List Int))) (fun n (v3, v4) => digest_Sum.L2 k v0 n v3 v4 = some v1) (fun (v3, v4) => [(3, AV.slc 0 0 1 v4.length false), (4, AV.int .u64 (IntKind.wrap .u64 (IntKind.wrap .u64 (v0.length : Int) * 8))), (5, AV.int .i64 v3)]) (fun (v3, v4) => [(0, .grow (List.map (AV.int .u8) v4))]) 1 k ((56, v2)) hF (by simp [F3]) (by simp [F3]) (by simp) ?_
  rintro (_|n2) ⟨v3, v4⟩ hF K322 hK322
  ·try dsimp only at hF
   rw [digest_Sum.L2] at hF; cases hF
  try dsimp only at hF
  rw [digest_Sum.L2] at hF
  refine AW.seq fun K324 hK324 => ?_
  refine AW.seqR mixed [] [none, none] (by kernel_rfl) fun G325 R325 hG325 hR325 => ?_
  try simp [F3]
  repeat' apply And.intro
  any_goals (first | exact hG325 _ (by kernel_rfl) | refine hR325 _ _ _ ?_ | omega | (unfold maxLen; omega) | (simp [F3]; done) | (simp [F3]; omega))
  refine AW.wk [(3, AV.slc 0 0 1 v4.length false), (4, AV.int .u64 (IntKind.wrap .u64 (IntKind.wrap .u64 (v0.length : Int) * 8))), (5, AV.int .i64 v3), (27, AV.bool (decide (0 ≤ v3)))] [(0, .grow (List.map (AV.int .u8) v4))] 1 (by simp [F3]) (by simp [F3]) (by simp) ?_
  by_cases h5 : 0 ≤ v3
  ·replace hF := ite_t h5 hF
   have h5_ := h5
   try simp at h5_
   have F4 := And.intro F3 (And.intro h5 h5_)
   refine AW.condT (by decide) (by first | (simp [F4]; done) | (simp [F4]; omega)) ?_
   refine AW.skip ?_
   refine hK324 _ _ _ ?_
   refine AW.seq fun K327 hK327 => ?_
   refine AW.block ?_
   refine AW.region mixed [] [none, none, none, none, none, none, none, none, none] (by kernel_rfl) fun G328 R328 hG328 hR328 => ?_
   obtain ⟨h6, hF⟩ := chk_elim hF
   obtain ⟨h7, hF⟩ := chk_elim hF
   have h7_ := h7
   try simp at h7_
   have F5 := And.intro F4 (And.intro h6 h7)
   try simp [F5]
   repeat' apply And.intro
   any_goals (first | exact hG328 _ (by kernel_rfl) | refine hR328 _ _ _ ?_ | omega | (unfold maxLen; omega) | (simp [F5]; done) | (simp [F5]; omega))
   refine hK327 _ _ _ ?_
   refine AW.wk [(3, AV.slc 1 0 1 ((v4 ++ ([IntKind.wrap .u8 (Int.fdiv (IntKind.wrap .u64 (IntKind.wrap .u64 (v0.length : Int) * 8)) (2 ^ (min ((IntKind.wrap .u64 v3).toNat) 64)))] : List Int)).length) false), (4, AV.int .u64 (IntKind.wrap .u64 (IntKind.wrap .u64 (v0.length : Int) * 8))), (5, AV.int .i64 v3)] [(1, .grow (List.map (AV.int .u8) (v4 ++ ([IntKind.wrap .u8 (Int.fdiv (IntKind.wrap .u64 (IntKind.wrap .u64 (v0.length : Int) * 8)) (2 ^ (min ((IntKind.wrap .u64 v3).toNat) 64)))] : List Int))))] 2 (by simp [F5] <;> omega) (by simp [F5]) (by simp) ?_
   refine AW.region mixed [] [none, none, none] (by kernel_rfl) fun G329 R329 hG329 hR329 => ?_
   try simp [F5]
   repeat' apply And.intro
   any_goals (first | exact hG329 _ (by kernel_rfl) | refine hR329 _ _ _ ?_ | omega | (unfold maxLen; omega) | (simp [F5]; done) | (simp [F5]; omega))
   refine hK322 _ _ _ ?_
   refine Can.weak [(3, AV.slc 1 0 1 ((v4 ++ ([IntKind.wrap .u8 (Int.fdiv (IntKind.wrap .u64 (IntKind.wrap .u64 (v0.length : Int) * 8)) (2 ^ (min ((IntKind.wrap .u64 v3).toNat) 64)))] : List Int)).length) false), (4, AV.int .u64 (IntKind.wrap .u64 (IntKind.wrap .u64 (v0.length : Int) * 8))), (5, AV.int .i64 (IntKind.wrap .i64 (v3 - 8)))] [(1, .grow (List.map (AV.int .u8) (v4 ++ ([IntKind.wrap .u8 (Int.fdiv (IntKind.wrap .u64 (IntKind.wrap .u64 (v0.length : Int) * 8)) (2 ^ (min ((IntKind.wrap .u64 v3).toNat) 64)))] : List Int))))] 2 (by simp [F5] <;> omega) (by simp [F5]) (by simp) ?_
   refine Can.ren (m := 0) h0 [(0, 1)] [(3, AV.slc 0 0 1 ((v4 ++ ([IntKind.wrap .u8 (Int.fdiv (IntKind.wrap .u64 (IntKind.wrap .u64 (v0.length : Int) * 8)) (2 ^ (min ((IntKind.wrap .u64 v3).toNat) 64)))] : List Int)).length) false), (4, AV.int .u64 (IntKind.wrap .u64 (IntKind.wrap .u64 (v0.length : Int) * 8))), (5, AV.int .i64 (IntKind.wrap .i64 (v3 - 8)))] [(0, .grow (List.map (AV.int .u8) (v4 ++ ([IntKind.wrap .u8 (Int.fdiv (IntKind.wrap .u64 (IntKind.wrap .u64 (v0.length : Int) * 8)) (2 ^ (min ((IntKind.wrap .u64 v3).toNat) 64)))] : List Int))))] 1 (by decide) (by decide) (by decide) rfl (by simp [F5]) (by simp [F5]) ?_
   exact Can.next (k' := n2) ((IntKind.wrap .i64 (v3 - 8), v4 ++ ([IntKind.wrap .u8 (Int.fdiv (IntKind.wrap .u64 (IntKind.wrap .u64 (v0.length : Int) * 8)) (2 ^ (min ((IntKind.wrap .u64 v3).toNat) 64)))] : List Int))) (by omega) hF (by simp [F5]) (by simp [F5]) (by simp)
  ·replace hF := ite_f h5 hF
   have h5_ := h5
   try simp at h5_
   have F6 := And.intro F3 (And.intro h5 h5_)
   refine AW.condF (by decide) (by first | (simp [F6]; done) | (simp [F6]; omega)) ?_
   refine AW.exit ?_
   try simp
   refine hK299 _ _ _ ?_
   refine AW.wk [(3, AV.slc 0 0 1 v4.length false)] [(0, .grow (List.map (AV.int .u8) v4))] 1 (by simp [F6]) (by simp [F6]) (by simp) ?_
   refine AW.frz 0 (o := .grow (List.map (AV.int .u8) v4)) (by simp [F6]) rfl [(3, AV.lst false false (List.map (AV.int .u8) v4))] [] ⟨(.l (by simp) (by simp) (by simp) (by simp)), trivial⟩ trivial ?_
   refine AW.wk [(3, AV.lst false false (List.map (AV.int .u8) v4))] [] 1 (by simp [F6]) (by simp [F6]) (by simp) ?_
   refine AW.seqR mixed [] [none, none, none, none, none, none] (by kernel_rfl) fun G330 R330 hG330 hR330 => ?_
   try simp [F6]
   repeat' apply And.intro
   try any_goals (first | omega | (unfold maxLen; omega) | (simp [F6]; done))
   obtain ⟨v5, h8, hF⟩ := bnd1_elim hF
   refine aCall_l (w_digest_rounds k _ h8) (by simp) [] [] [] rfl .nil (by simp [F6]) (by decide) (by simp) (by simp) (.inl rfl) (by simp) (by simp) ?_
   obtain ⟨h9, hF⟩ := chk_elim hF
   obtain ⟨h10, hF⟩ := chk_elim hF
   have F7 := And.intro F6 (And.intro h9 h10)
   try simp [F7]
   repeat' apply And.intro
   any_goals (first | exact hG330 _ (by kernel_rfl) | refine hR330 _ _ _ ?_ | omega | (unfold maxLen; omega) | (simp [F7]; done) | (simp [F7]; omega))
   refine AW.wk [(3, AV.lst false false (List.map (AV.int .u8) v4)), (6, AV.ptr 1 0), (7, AV.ptr 2 0)] [(1, .cells (List.map (AV.int .u32) ([1779033703, 3144134277, 1013904242, 2773480762, 1359893119, 2600822924, 528734635, 1541459225] : List Int))), (2, .cells (List.map (AV.int .u32) v5))] 3 (by simp [F7]) (by simp [F7]) (by simp) ?_
   refine AW.seq fun K360 hK360 => ?_
   refine AW.block ?_
   refine AW.rnm (m := 0) h0 [(0, 1), (1, 2)] [(3, AV.lst false false (List.map (AV.int .u8) v4)), (6, AV.ptr 0 0), (7, AV.ptr 1 0)] [(0, .cells (List.map (AV.int .u32) ([1779033703, 3144134277, 1013904242, 2773480762, 1359893119, 2600822924, 528734635, 1541459225] : List Int))), (1, .cells (List.map (AV.int .u32) v5))] 2 (by decide) (by decide) (by decide) rfl (by simp [F7]) (by simp [F7]) ?_
   refine AW.loopF (α := ((List Int) × (List Int))) (fun n (v6, v7) => digest_Sum.L3 k v5 n v6 v7 = some v1) (fun (v6, v7) => [(3, AV.lst false false (List.map (AV.int .u8) v6)), (6, AV.ptr 0 0), (7, AV.ptr 1 0)]) (fun (v6, v7) => [(0, .cells (List.map (AV.int .u32) v7)), (1, .cells (List.map (AV.int .u32) v5))]) 2 k ((v4, ([1779033703, 3144134277, 1013904242, 2773480762, 1359893119, 2600822924, 528734635, 1541459225] : List Int))) hF (by simp [F7]) (by simp [F7]) (by simp) ?_
   rintro (_|n3) ⟨v6, v7⟩ hF K382 hK382
   ·try dsimp only at hF
    rw [digest_Sum.L3] at hF; cases hF
   try dsimp only at hF
   rw [digest_Sum.L3] at hF
   refine AW.seq fun K384 hK384 => ?_
   refine AW.seqR mixed [] [none, none, none] (by kernel_rfl) fun G385 R385 hG385 hR385 => ?_
   try simp [F7]
   repeat' apply And.intro
   any_goals (first | exact hG385 _ (by kernel_rfl) | refine hR385 _ _ _ ?_ | omega | (unfold maxLen; omega) | (simp [F7]; done) | (simp [F7]; omega))
   refine AW.wk [(3, AV.lst false false (List.map (AV.int .u8) v6)), (6, AV.ptr 0 0), (7, AV.ptr 1 0), (42, AV.bool (decide (0 < (v6.length : Int))))] [(0, .cells (List.map (AV.int .u32) v7)), (1, .cells (List.map (AV.int .u32) v5))] 2 (by simp [F7]) (by simp [F7]) (by simp) ?_
   by_cases h11 : 0 < (v6.length : Int)
   ·replace hF := ite_t h11 hF
    have h11_ := h11
    try simp at h11_
    have F8 := And.intro F7 (And.intro h11 h11_)
    refine AW.condT (by decide) (by first | (simp [F8]; done) | (simp [F8]; omega)) ?_
    refine AW.skip ?_
    refine hK384 _ _ _ ?_
    refine AW.seq fun K387 hK387 => ?_
    refine AW.block ?_
    refine AW.region mixed [] [none, none, none] (by kernel_rfl) fun G388 R388 hG388 hR388 => ?_
    obtain ⟨h12, hF⟩ := chk_elim hF
    have h12_ := h12
    try simp at h12_
    have F9 := And.intro F8 (And.intro h12 h12_)
    try simp [F9]
    repeat' apply And.intro
    try any_goals (first | omega | (unfold maxLen; omega) | (simp [F9]; done))
    obtain ⟨v8, h13, hF⟩ := bnd1_elim hF
    refine aCall_l (w_digest_state_block k _ _ _ _ h13) (by simp) [0, 1] [] [0] rfl (.cons (.same (by simp [F9])) (.cons (.same (by simp [F9])) (.cons (.same (by simp [F9])) .nil))) (by simp [F9]) (by decide) (by simp) (by simp) (.inl rfl) (by simp) (by simp) ?_
    try simp [F9]
    repeat' apply And.intro
    any_goals (first | exact hG388 _ (by kernel_rfl) | refine hR388 _ _ _ ?_ | omega | (unfold maxLen; omega) | (simp [F9]; done) | (simp [F9]; omega))
    refine hK387 _ _ _ ?_
    refine AW.wk [(3, AV.lst false false (List.map (AV.int .u8) v6)), (6, AV.ptr 0 0), (7, AV.ptr 1 0)] [(0, .cells (List.map (AV.int .u32) v8)), (1, .cells (List.map (AV.int .u32) v5))] 2 (by simp [F9]) (by simp [F9]) (by simp) ?_
    refine AW.region mixed [] [none, none, none] (by kernel_rfl) fun G389 R389 hG389 hR389 => ?_
    obtain ⟨h14, hF⟩ := chk_elim hF
    have h14_ := h14
    try simp at h14_
    have F10 := And.intro F9 (And.intro h14 h14_)
    try simp [F10]
    repeat' apply And.intro
    any_goals (first | exact hG389 _ (by kernel_rfl) | refine hR389 _ _ _ ?_ | omega | (unfold maxLen; omega) | (simp [F10]; done) | (simp [F10]; omega))
    refine hK382 _ _ _ ?_
    refine Can.weak [(3, AV.lst false false (List.map (AV.int .u8) (v6.drop (64 : Int).toNat))), (6, AV.ptr 0 0), (7, AV.ptr 1 0)] [(0, .cells (List.map (AV.int .u32) v8)), (1, .cells (List.map (AV.int .u32) v5))] 2 (by simp [F10]) (by simp [F10]) (by simp) ?_
    exact Can.next (k' := n3) ((v6.drop (64 : Int).toNat, v8)) (by omega) hF (by simp [F10]) (by simp [F10]) (by simp)
   ·replace hF := ite_f h11 hF
    have h11_ := h11
    try simp at h11_
    have F11 := And.intro F7 (And.intro h11 h11_)
    refine AW.condF (by decide) (by first | (simp [F11]; done) | (simp [F11]; omega)) ?_
    refine AW.exit ?_
    try simp
    refine hK360 _ _ _ ?_
    refine AW.seqR mixed [] [none] (by kernel_rfl) fun G390 R390 hG390 hR390 => ?_
    try simp [F11]
    repeat' apply And.intro
    any_goals (first | exact hG390 _ (by kernel_rfl) | refine hR390 _ _ _ ?_ | omega | (unfold maxLen; omega) | (simp [F11]; done) | (simp [F11]; omega))
    refine AW.wk [(6, AV.ptr 0 0), (8, AV.lst true true (List.map (AV.int .u8) ([] : List Int)))] [(0, .cells (List.map (AV.int .u32) v7))] 2 (by simp [F11]) (by simp [F11]) (by simp) ?_
    refine AW.seq fun K425 hK425 => ?_
    refine AW.seqR mixed [] [none, none] (by kernel_rfl) fun G426 R426 hG426 hR426 => ?_
    -- array load
    obtain ⟨h15, hF⟩ := chk_elim hF
    have h15_ := ne_of_len h15 (by decide)
    have F12 := And.intro F11 (And.intro h15 h15_)
    try simp [F12]
    repeat' apply And.intro
    any_goals (first | exact hG426 _ (by kernel_rfl) | refine hR426 _ _ _ ?_ | omega | (unfold maxLen; omega) | (simp [F12]; done) | (simp [F12]; omega))
    refine AW.wk [(8, AV.lst true true (List.map (AV.int .u8) ([] : List Int))), (48, AV.agg (List.map (AV.int .u32) v7)), (49, AV.int .i64 0)] [] 2 (by simp [F12]) (by simp [F12]) (by simp) ?_
    refine AW.block ?_
    refine AW.own' 8 1 true (by simp [F12]) (by decide) ?_
    refine AW.rnm (m := 0) h0 [(0, 2)] [(8, AV.slc 0 0 1 (([] : List Int).length) false), (48, AV.agg (List.map (AV.int .u32) v7)), (49, AV.int .i64 0)] [(0, .grow (List.map (AV.int .u8) ([] : List Int)))] 1 (by decide) (by decide) (by decide) rfl (by simp [F12]) (by simp [F12]) ?_
    refine AW.loopF (α := (Int × (List Int))) (fun n (v9, v10) => digest_Sum.L4 k v7 n v9 v10 = some v1) (fun (v9, v10) => [(8, AV.slc 0 0 1 v10.length false), (48, AV.agg (List.map (AV.int .u32) v7)), (49, AV.int .i64 v9)]) (fun (v9, v10) => [(0, .grow (List.map (AV.int .u8) v10))]) 1 k ((0, ([] : List Int))) hF (by simp [F12]) (by simp [F12]) (by simp) ?_
    rintro (_|n4) ⟨v9, v10⟩ hF K451 hK451
    ·try dsimp only at hF
     rw [digest_Sum.L4] at hF; cases hF
    try dsimp only at hF
    rw [digest_Sum.L4] at hF
    refine AW.seqR mixed [] [none] (by kernel_rfl) fun G452 R452 hG452 hR452 => ?_
    try simp [F12]
    repeat' apply And.intro
    any_goals (first | exact hG452 _ (by kernel_rfl) | refine hR452 _ _ _ ?_ | omega | (unfold maxLen; omega) | (simp [F12]; done) | (simp [F12]; omega))
    refine AW.wk [(8, AV.slc 0 0 1 v10.length false), (48, AV.agg (List.map (AV.int .u32) v7)), (49, AV.int .i64 v9), (50, AV.bool (decide (v9 < 8)))] [(0, .grow (List.map (AV.int .u8) v10))] 1 (by simp [F12]) (by simp [F12]) (by simp) ?_
    refine AW.seq fun K453 hK453 => ?_
    by_cases h16 : v9 < 8
    ·replace hF := ite_t h16 hF
     have h16_ := h16
     try simp at h16_
     have F13 := And.intro F12 (And.intro h16 h16_)
     refine AW.condT (by decide) (by first | (simp [F13]; done) | (simp [F13]; omega)) ?_
     refine AW.skip ?_
     refine hK453 _ _ _ ?_
     refine AW.seq fun K456 hK456 => ?_
     refine AW.block ?_
     refine AW.seqR mixed [] [none, none] (by kernel_rfl) fun G457 R457 hG457 hR457 => ?_
     obtain ⟨h17, hF⟩ := chk_elim hF
     obtain ⟨v11, h18, h19, h20, hF⟩ := idx_elim hF
     have h20_ := get_of h20
     try simp at h20_
     have h19_ := h19
     try simp at h19_
     have F14 := And.intro F13 (And.intro h17 (And.intro h18 (And.intro h19 (And.intro h20 (And.intro h20_ h19_)))))
     try simp [F14]
     repeat' apply And.intro
     any_goals (first | exact hG457 _ (by kernel_rfl) | refine hR457 _ _ _ ?_ | omega | (unfold maxLen; omega) | (simp [F14]; done) | (simp [F14]; omega))
     refine AW.wk [(8, AV.slc 0 0 1 v10.length false), (10, AV.int .u32 v11), (48, AV.agg (List.map (AV.int .u32) v7)), (49, AV.int .i64 v9)] [(0, .grow (List.map (AV.int .u8) v10))] 1 (by simp [F14]) (by simp [F14]) (by simp) ?_
     refine AW.region mixed [] [none, none, none, none, none, none, none, none, none, none, none, none, none, none, none] (by kernel_rfl) fun G458 R458 hG458 hR458 => ?_
     obtain ⟨h21, hF⟩ := chk_elim hF
     have h21_ := h21
     try simp at h21_
     have F15 := And.intro F14 h21
     try simp [F15]
     repeat' apply And.intro
     any_goals (first | exact hG458 _ (by kernel_rfl) | refine hR458 _ _ _ ?_ | omega | (unfold maxLen; omega) | (simp [F15]; done) | (simp [F15]; omega))
     refine hK456 _ _ _ ?_
     refine AW.wk [(8, AV.slc 1 0 1 ((v10 ++ ([IntKind.wrap .u8 (Int.fdiv v11 (2 ^ (24))), IntKind.wrap .u8 (Int.fdiv v11 (2 ^ (16))), IntKind.wrap .u8 (Int.fdiv v11 (2 ^ (8))), IntKind.wrap .u8 v11] : List Int)).length) false), (48, AV.agg (List.map (AV.int .u32) v7)), (49, AV.int .i64 v9)] [(1, .grow (List.map (AV.int .u8) (v10 ++ ([IntKind.wrap .u8 (Int.fdiv v11 (2 ^ (24))), IntKind.wrap .u8 (Int.fdiv v11 (2 ^ (16))), IntKind.wrap .u8 (Int.fdiv v11 (2 ^ (8))), IntKind.wrap .u8 v11] : List Int))))] 2 (by simp [F15] <;> omega) (by simp [F15]) (by simp) ?_
     refine AW.region mixed [] [none, none] (by kernel_rfl) fun G459 R459 hG459 hR459 => ?_
     try simp [F15]
     repeat' apply And.intro
     any_goals (first | exact hG459 _ (by kernel_rfl) | refine hR459 _ _ _ ?_ | omega | (unfold maxLen; omega) | (simp [F15]; done) | (simp [F15]; omega))
     refine hK451 _ _ _ ?_
     refine Can.weak [(8, AV.slc 1 0 1 ((v10 ++ ([IntKind.wrap .u8 (Int.fdiv v11 (2 ^ (24))), IntKind.wrap .u8 (Int.fdiv v11 (2 ^ (16))), IntKind.wrap .u8 (Int.fdiv v11 (2 ^ (8))), IntKind.wrap .u8 v11] : List Int)).length) false), (48, AV.agg (List.map (AV.int .u32) v7)), (49, AV.int .i64 (IntKind.wrap .i64 (v9 + 1)))] [(1, .grow (List.map (AV.int .u8) (v10 ++ ([IntKind.wrap .u8 (Int.fdiv v11 (2 ^ (24))), IntKind.wrap .u8 (Int.fdiv v11 (2 ^ (16))), IntKind.wrap .u8 (Int.fdiv v11 (2 ^ (8))), IntKind.wrap .u8 v11] : List Int))))] 2 (by simp [F15] <;> omega) (by simp [F15]) (by simp) ?_
     refine Can.ren (m := 0) h0 [(0, 1)] [(8, AV.slc 0 0 1 ((v10 ++ ([IntKind.wrap .u8 (Int.fdiv v11 (2 ^ (24))), IntKind.wrap .u8 (Int.fdiv v11 (2 ^ (16))), IntKind.wrap .u8 (Int.fdiv v11 (2 ^ (8))), IntKind.wrap .u8 v11] : List Int)).length) false), (48, AV.agg (List.map (AV.int .u32) v7)), (49, AV.int .i64 (IntKind.wrap .i64 (v9 + 1)))] [(0, .grow (List.map (AV.int .u8) (v10 ++ ([IntKind.wrap .u8 (Int.fdiv v11 (2 ^ (24))), IntKind.wrap .u8 (Int.fdiv v11 (2 ^ (16))), IntKind.wrap .u8 (Int.fdiv v11 (2 ^ (8))), IntKind.wrap .u8 v11] : List Int))))] 1 (by decide) (by decide) (by decide) rfl (by simp [F15]) (by simp [F15]) ?_
     exact Can.next (k' := n4) ((IntKind.wrap .i64 (v9 + 1), v10 ++ ([IntKind.wrap .u8 (Int.fdiv v11 (2 ^ (24))), IntKind.wrap .u8 (Int.fdiv v11 (2 ^ (16))), IntKind.wrap .u8 (Int.fdiv v11 (2 ^ (8))), IntKind.wrap .u8 v11] : List Int))) (by omega) hF (by simp [F15]) (by simp [F15]) (by simp)
    ·replace hF := ite_f h16 hF
     have h16_ := h16
     try simp at h16_
     have F16 := And.intro F12 (And.intro h16 h16_)
     refine AW.condF (by decide) (by first | (simp [F16]; done) | (simp [F16]; omega)) ?_
     refine AW.exit ?_
     try simp
     refine hK425 _ _ _ ?_
     refine AW.wk [(8, AV.slc 0 0 1 v10.length false)] [(0, .grow (List.map (AV.int .u8) v10))] 1 (by simp [F16]) (by simp [F16]) (by simp) ?_
     refine AW.frz 0 (o := .grow (List.map (AV.int .u8) v10)) (by simp [F16]) rfl [(8, AV.lst false false (List.map (AV.int .u8) v10))] [] ⟨(.l (by simp) (by simp) (by simp) (by simp)), trivial⟩ trivial ?_
     refine AW.wk [(8, AV.lst false false (List.map (AV.int .u8) v10))] [] 1 (by simp [F16]) (by simp [F16]) (by simp) ?_
     refine AW.seqR mixed [] [none, none, none] (by kernel_rfl) fun G460 R460 hG460 hR460 => ?_
     try simp [F16]
     repeat' apply And.intro
     any_goals (first | exact hG460 _ (by kernel_rfl) | refine hR460 _ _ _ ?_ | omega | (unfold maxLen; omega) | (simp [F16]; done) | (simp [F16]; omega))
     refine AW.wk [(2, AV.str (ofI v10))] [] 1 (by simp [F16]) (by simp [F16]) (by simp) ?_
     simp only [Option.some.injEq] at hF
     subst hF
     refine AW.ret (hQ _ _ _ ?_ (matchO_0 ?_)).1
     ·simp [Try.f14, F16]
     ·simp [F16]
set_option maxHeartbeats 4000000 in
theorem w_beacon_Numbers (k : Nat) (v0 : ByteArray) (v1 : (List Int)) (v2 : Int) (v3 : (List Int)) (v4 : Int) (hF : beacon_Numbers k v0 v1 v2 = some (v3, v4)) :
  FCall Try.prog 41 [AV.str v0, AV.lst false false (List.map (AV.int .i64) v1), AV.int .i64 v2] [] (AV.tup [AV.slc 0 0 1 v3.length false, AV.int .i64 v4]) [some (.grow (List.map (AV.int .i64) v3))] := by
 unfold beacon_Numbers at hF
 refine FCall.enter Try.func41 rfl (by simp) (by decide) (by simp) (by simp) (by simp) (by simp) (by simp) ?_
 intro c0 w0 Q h0 hQ
 refine AW.wk [(0, AV.str v0), (1, AV.lst false false (List.map (AV.int .i64) v1)), (2, AV.int .i64 v2)] [] 0 (by simp) (by simp) (by simp) ?_
 refine AW.seqR mixed [] [none, none] (by kernel_rfl) fun G1225 R1225 hG1225 hR1225 => ?_
 try simp
 repeat' apply And.intro
 any_goals (first | exact hG1225 _ (by kernel_rfl) | refine hR1225 _ _ _ ?_ | omega | (unfold maxLen; omega) | (simp; done) | (simp; omega))
 refine AW.wk [(0, AV.str v0), (1, AV.lst false false (List.map (AV.int .i64) v1)), (2, AV.int .i64 v2)] [] 0 (by simp) (by simp) (by simp) ?_
 refine AW.seq fun K1233 hK1233 => ?_
 refine AW.block ?_
 refine AW.seqR mixed [] [none, none, none, none] (by kernel_rfl) fun G1234 R1234 hG1234 hR1234 => ?_
 try simp
 repeat' apply And.intro
 any_goals (first | exact hG1234 _ (by kernel_rfl) | refine hR1234 _ _ _ ?_ | omega | (unfold maxLen; omega) | (simp; done) | (simp; omega))
 refine AW.wk [(0, AV.str v0), (1, AV.lst false false (List.map (AV.int .i64) v1)), (2, AV.int .i64 v2), (14, AV.bool ((v0.size : Int) != 32))] [] 0 (by simp) (by simp) (by simp) ?_
 by_cases h1 : (v0.size : Int) ≠ 32
 ·replace hF := ite_t h1 hF
  have h1_ := eqb_f h1
  have h1__ := neb_t h1
  have F1 := And.intro h1 (And.intro h1_ h1__)
  refine AW.condT (by decide) (by first | (simp [F1]; done) | (simp [F1]; omega)) ?_
  refine AW.seqR mixed [] [none, none] (by kernel_rfl) fun G1235 R1235 hG1235 hR1235 => ?_
  try simp [F1]
  repeat' apply And.intro
  any_goals (first | exact hG1235 _ (by kernel_rfl) | refine hR1235 _ _ _ ?_ | omega | (unfold maxLen; omega) | (simp [F1]; done) | (simp [F1]; omega))
  refine AW.wk [(6, AV.lst true true (List.map (AV.int .i64) ([] : List Int))), (7, AV.int .i64 1)] [] 0 (by simp [F1]) (by simp [F1]) (by simp) ?_
  refine AW.own' 6 1 true (by simp [F1]) (by decide) ?_
  simp only [Option.some.injEq, Prod.mk.injEq] at hF
  obtain ⟨e0, e1⟩ := hF
  subst e0 e1
  refine AW.ret (hQ _ _ _ ?_ (matchO_0 ?_)).1
  ·simp [Try.f41, F1]
  ·simp [F1]
 ·replace hF := ite_f h1 hF
  have h1q : (v0.size : Int) = 32 := Classical.not_not.1 h1
  have h1_ := eqb_t h1q
  have h1__ := neb_f h1q
  have F2 := And.intro h1_ (And.intro h1__ h1q)
  refine AW.condF (by decide) (by first | (simp [F2]; done) | (simp [F2]; omega)) ?_
  refine AW.seqR mixed [] [none, none, none, none] (by kernel_rfl) fun G1236 R1236 hG1236 hR1236 => ?_
  try simp [F2]
  repeat' apply And.intro
  any_goals (first | exact hG1236 _ (by kernel_rfl) | refine hR1236 _ _ _ ?_ | omega | (unfold maxLen; omega) | (simp [F2]; done) | (simp [F2]; omega))
  refine AW.wk [(0, AV.str v0), (1, AV.lst false false (List.map (AV.int .i64) v1)), (2, AV.int .i64 v2), (18, AV.bool (decide (64 < (v1.length : Int))))] [] 0 (by simp [F2]) (by simp [F2]) (by simp) ?_
  by_cases h2 : 64 < (v1.length : Int)
  ·replace hF := ite_t h2 hF
   have h2_ := h2
   try simp at h2_
   have F3 := And.intro F2 (And.intro h2 h2_)
   refine AW.condT (by decide) (by first | (simp [F3]; done) | (simp [F3]; omega)) ?_
   refine AW.seqR mixed [] [none, none] (by kernel_rfl) fun G1237 R1237 hG1237 hR1237 => ?_
   try simp [F3]
   repeat' apply And.intro
   any_goals (first | exact hG1237 _ (by kernel_rfl) | refine hR1237 _ _ _ ?_ | omega | (unfold maxLen; omega) | (simp [F3]; done) | (simp [F3]; omega))
   refine AW.wk [(6, AV.lst true true (List.map (AV.int .i64) ([] : List Int))), (7, AV.int .i64 3)] [] 0 (by simp [F3]) (by simp [F3]) (by simp) ?_
   refine AW.own' 6 1 true (by simp [F3]) (by decide) ?_
   simp only [Option.some.injEq, Prod.mk.injEq] at hF
   obtain ⟨e0, e1⟩ := hF
   subst e0 e1
   refine AW.ret (hQ _ _ _ ?_ (matchO_0 ?_)).1
   ·simp [Try.f41, F3]
   ·simp [F3]
  ·replace hF := ite_f h2 hF
   have h2_ := h2
   try simp at h2_
   have F4 := And.intro F2 (And.intro h2 h2_)
   refine AW.condF (by decide) (by first | (simp [F4]; done) | (simp [F4]; omega)) ?_
   refine AW.seqR mixed [] [none, none, none, some (25, false), some (25, false), none, none] (by kernel_rfl) fun G1238 R1238 hG1238 hR1238 => ?_
   by_cases h3 : v2 < 0
   ·replace hF := ite_t h3 hF
    have h3_ := h3
    try simp at h3_
    have F5 := And.intro F4 (And.intro h3 h3_)
    try simp [F5]
    repeat' apply And.intro
    any_goals (first | exact hG1238 _ (by kernel_rfl) | refine hR1238 _ _ _ ?_ | omega | (unfold maxLen; omega) | (simp [F5]; done) | (simp [F5]; omega))
    refine AW.wk [(0, AV.str v0), (1, AV.lst false false (List.map (AV.int .i64) v1)), (2, AV.int .i64 v2), (22, AV.bool true)] [] 0 (by simp [F5]) (by simp [F5]) (by simp) ?_
    refine AW.condT (by decide) (by simp [F5]) ?_
    refine AW.seqR mixed [] [none, none] (by kernel_rfl) fun G1239 R1239 hG1239 hR1239 => ?_
    try simp [F5]
    repeat' apply And.intro
    any_goals (first | exact hG1239 _ (by kernel_rfl) | refine hR1239 _ _ _ ?_ | omega | (unfold maxLen; omega) | (simp [F5]; done) | (simp [F5]; omega))
    refine AW.wk [(6, AV.lst true true (List.map (AV.int .i64) ([] : List Int))), (7, AV.int .i64 2)] [] 0 (by simp [F5]) (by simp [F5]) (by simp) ?_
    refine AW.own' 6 1 true (by simp [F5]) (by decide) ?_
    simp only [Option.some.injEq, Prod.mk.injEq] at hF
    obtain ⟨e0, e1⟩ := hF
    subst e0 e1
    refine AW.ret (hQ _ _ _ ?_ (matchO_0 ?_)).1
    ·simp [Try.f41, F5]
    ·simp [F5]
   ·replace hF := ite_f h3 hF
    have h3_ := h3
    try simp at h3_
    have F6 := And.intro F4 (And.intro h3 h3_)
    try simp [F6]
    repeat' apply And.intro
    any_goals (first | exact hG1238 _ (by kernel_rfl) | refine hR1238 _ _ _ ?_ | omega | (unfold maxLen; omega) | (simp [F6]; done) | (simp [F6]; omega))
    refine AW.wk [(0, AV.str v0), (1, AV.lst false false (List.map (AV.int .i64) v1)), (2, AV.int .i64 v2), (22, AV.bool (decide (64 < v2)))] [] 0 (by simp [F6]) (by simp [F6]) (by simp) ?_
    by_cases h4 : 64 < v2
    ·replace hF := ite_t h4 hF
     have h4_ := h4
     try simp at h4_
     have F7 := And.intro F6 (And.intro h4 h4_)
     refine AW.condT (by decide) (by first | (simp [F7]; done) | (simp [F7]; omega)) ?_
     refine AW.seqR mixed [] [none, none] (by kernel_rfl) fun G1240 R1240 hG1240 hR1240 => ?_
     try simp [F7]
     repeat' apply And.intro
     any_goals (first | exact hG1240 _ (by kernel_rfl) | refine hR1240 _ _ _ ?_ | omega | (unfold maxLen; omega) | (simp [F7]; done) | (simp [F7]; omega))
     refine AW.wk [(6, AV.lst true true (List.map (AV.int .i64) ([] : List Int))), (7, AV.int .i64 2)] [] 0 (by simp [F7]) (by simp [F7]) (by simp) ?_
     refine AW.own' 6 1 true (by simp [F7]) (by decide) ?_
     simp only [Option.some.injEq, Prod.mk.injEq] at hF
     obtain ⟨e0, e1⟩ := hF
     subst e0 e1
     refine AW.ret (hQ _ _ _ ?_ (matchO_0 ?_)).1
     ·simp [Try.f41, F7]
     ·simp [F7]
    ·replace hF := ite_f h4 hF
     have h4_ := h4
     try simp at h4_
     have F8 := And.intro F6 (And.intro h4 h4_)
     refine AW.condF (by decide) (by first | (simp [F8]; done) | (simp [F8]; omega)) ?_
     refine AW.skip ?_
     refine hK1233 _ _ _ ?_
     refine AW.seqR mixed [] [none] (by kernel_rfl) fun G1241 R1241 hG1241 hR1241 => ?_
     try simp [F8]
     repeat' apply And.intro
     any_goals (first | exact hG1241 _ (by kernel_rfl) | refine hR1241 _ _ _ ?_ | omega | (unfold maxLen; omega) | (simp [F8]; done) | (simp [F8]; omega))
     refine AW.wk [(0, AV.str v0), (1, AV.lst false false (List.map (AV.int .i64) v1)), (2, AV.int .i64 v2), (8, AV.lst true true (List.map (AV.int .i64) ([] : List Int)))] [] 0 (by simp [F8]) (by simp [F8]) (by simp) ?_
     refine AW.seqR mixed [30] [none, none, none, none, none] (by kernel_rfl) fun G1242 R1242 hG1242 hR1242 => ?_
     try simp [F8]
     repeat' apply And.intro
     try any_goals (first | omega | (unfold maxLen; omega) | (simp [F8]; done))
     obtain ⟨v5, h5, hF⟩ := bnd1_elim hF
     refine aCall_l (w_beacon_list k _ _ _ h5) (by simp) [0] [] [0] rfl (.cons (.same (by simp [F8])) (.cons (.same (by simp [F8])) .nil)) (by simp [F8]) (by decide) (by simp) (by simp) (.inl rfl) (by simp) (by simp) ?_
     try simp [F8]
     repeat' apply And.intro
     any_goals (first | exact hG1242 _ (by kernel_rfl) | refine hR1242 _ _ _ ?_ | omega | (unfold maxLen; omega) | (simp [F8]; done) | (simp [F8]; omega))
     refine AW.wk [(2, AV.int .i64 v2), (8, AV.lst true true (List.map (AV.int .i64) ([] : List Int))), (9, AV.slc 1 0 1 v5.length false)] [(1, .cells (List.map (AV.int .u8) v5))] 2 (by simp [F8]) (by simp [F8]) (by simp) ?_
     refine AW.frz 1 (o := .cells (List.map (AV.int .u8) v5)) (by simp [F8]) rfl [(9, AV.lst false false (List.map (AV.int .u8) v5))] [] ⟨(.l (by simp) (by simp) (by simp) (by simp)), trivial⟩ trivial ?_
     refine AW.wk [(2, AV.int .i64 v2), (8, AV.lst true true (List.map (AV.int .i64) ([] : List Int))), (9, AV.lst false false (List.map (AV.int .u8) v5))] [] 2 (by simp [F8]) (by simp [F8]) (by simp) ?_
     refine AW.seq fun K1845 hK1845 => ?_
     refine AW.seqR mixed [] [none, none] (by kernel_rfl) fun G1846 R1846 hG1846 hR1846 => ?_
     try simp [F8]
     repeat' apply And.intro
     any_goals (first | exact hG1846 _ (by kernel_rfl) | refine hR1846 _ _ _ ?_ | omega | (unfold maxLen; omega) | (simp [F8]; done) | (simp [F8]; omega))
     refine AW.wk [(8, AV.lst true true (List.map (AV.int .i64) ([] : List Int))), (9, AV.lst false false (List.map (AV.int .u8) v5)), (33, AV.int .i64 v2), (34, AV.int .i64 0)] [] 2 (by simp [F8]) (by simp [F8]) (by simp) ?_
     refine AW.block ?_
     refine AW.own' 8 1 true (by simp [F8]) (by decide) ?_
     refine AW.rnm (m := 0) h0 [(0, 2)] [(8, AV.slc 0 0 1 (([] : List Int).length) false), (9, AV.lst false false (List.map (AV.int .u8) v5)), (33, AV.int .i64 v2), (34, AV.int .i64 0)] [(0, .grow (List.map (AV.int .i64) ([] : List Int)))] 1 (by decide) (by decide) (by decide) rfl (by simp [F8]) (by simp [F8]) ?_
     refine AW.loopF (α := (Int × (List Int))) (fun n (v6, v7) => beacon_Numbers.L1 k v2 v5 n v6 v7 = some (v3, v4)) (fun (v6, v7) => [(8, AV.slc 0 0 1 v7.length false), (9, AV.lst false false (List.map (AV.int .u8) v5)), (33, AV.int .i64 v2), (34, AV.int .i64 v6)]) (fun (v6, v7) => [(0, .grow (List.map (AV.int .i64) v7))]) 1 k ((0, ([] : List Int))) hF (by simp [F8]) (by simp [F8]) (by simp) ?_
     rintro (_|n1) ⟨v6, v7⟩ hF K2297 hK2297
     ·try dsimp only at hF
      rw [beacon_Numbers.L1] at hF; cases hF
     try dsimp only at hF
     rw [beacon_Numbers.L1] at hF
     refine AW.seqR mixed [] [none] (by kernel_rfl) fun G2298 R2298 hG2298 hR2298 => ?_
     try simp [F8]
     repeat' apply And.intro
     any_goals (first | exact hG2298 _ (by kernel_rfl) | refine hR2298 _ _ _ ?_ | omega | (unfold maxLen; omega) | (simp [F8]; done) | (simp [F8]; omega))
     refine AW.wk [(8, AV.slc 0 0 1 v7.length false), (9, AV.lst false false (List.map (AV.int .u8) v5)), (33, AV.int .i64 v2), (34, AV.int .i64 v6), (35, AV.bool (decide (v6 < v2)))] [(0, .grow (List.map (AV.int .i64) v7))] 1 (by simp [F8]) (by simp [F8]) (by simp) ?_
     refine AW.seq fun K2299 hK2299 => ?_
     by_cases h6 : v6 < v2
     ·replace hF := ite_t h6 hF
      have h6_ := h6
      try simp at h6_
      have F9 := And.intro F8 (And.intro h6 h6_)
      refine AW.condT (by decide) (by first | (simp [F9]; done) | (simp [F9]; omega)) ?_
      refine AW.skip ?_
      refine hK2299 _ _ _ ?_
      refine AW.seq fun K2373 hK2373 => ?_
      refine AW.block ?_
      refine AW.seqR mixed [] [none, none] (by kernel_rfl) fun G2374 R2374 hG2374 hR2374 => ?_
      try simp [F9]
      repeat' apply And.intro
      any_goals (first | exact hG2374 _ (by kernel_rfl) | refine hR2374 _ _ _ ?_ | omega | (unfold maxLen; omega) | (simp [F9]; done) | (simp [F9]; omega))
      refine AW.wk [(8, AV.slc 0 0 1 v7.length false), (9, AV.lst false false (List.map (AV.int .u8) v5)), (10, AV.int .i64 v6), (33, AV.int .i64 v2), (34, AV.int .i64 v6)] [(0, .grow (List.map (AV.int .i64) v7))] 1 (by simp [F9]) (by simp [F9]) (by simp) ?_
      refine AW.seqR mixed [] [none, none, none, none, none, none, none, none, none, none, none] (by kernel_rfl) fun G2375 R2375 hG2375 hR2375 => ?_
      obtain ⟨⟨h7, h8⟩, hF⟩ := chk_elim hF
      have h7_ := h7
      try simp at h7_
      have h8_ := h8
      try simp at h8_
      have F10 := And.intro F9 (And.intro h7 (And.intro h8 (And.intro h7_ h8_)))
      try simp [F10]
      repeat' apply And.intro
      try any_goals (first | omega | (unfold maxLen; omega) | (simp [F10]; done))
      obtain ⟨v8, h9, hF⟩ := bnd1_elim hF
      refine aCall_l (w_beacon_bytes_v2 k _ _ _ h9) (by simp) [] [] [] rfl (.cons (.same (by simp [F10])) (.cons (Coe.fl (by simp [F10])) .nil)) (by simp [F10]) (by decide) (by simp) (by simp) (.inl rfl) (by simp) (by simp) ?_
      try simp [F10]
      repeat' apply And.intro
      try any_goals (first | omega | (unfold maxLen; omega) | (simp [F10]; done))
      obtain ⟨v9, h10, hF⟩ := bnd1_elim hF
      refine aCall_l (w_digest_Sum k _ _ h10) (by simp) [] [] [] rfl (.cons (.same (by simp [F10])) .nil) (by simp [F10]) (by decide) (by simp) (by simp) (.inl rfl) (by simp) (by simp) ?_
      try simp [F10]
      repeat' apply And.intro
      any_goals (first | exact hG2375 _ (by kernel_rfl) | refine hR2375 _ _ _ ?_ | omega | (unfold maxLen; omega) | (simp [F10]; done) | (simp [F10]; omega))
      refine AW.wk [(8, AV.slc 0 0 1 v7.length false), (9, AV.lst false false (List.map (AV.int .u8) v5)), (11, AV.str v9), (33, AV.int .i64 v2), (34, AV.int .i64 v6)] [(0, .grow (List.map (AV.int .i64) v7))] 1 (by simp [F10]) (by simp [F10]) (by simp) ?_
      refine AW.seqR mixed [] [none] (by kernel_rfl) fun G2376 R2376 hG2376 hR2376 => ?_
      try simp [F10]
      repeat' apply And.intro
      any_goals (first | exact hG2376 _ (by kernel_rfl) | refine hR2376 _ _ _ ?_ | omega | (unfold maxLen; omega) | (simp [F10]; done) | (simp [F10]; omega))
      refine AW.wk [(8, AV.slc 0 0 1 v7.length false), (9, AV.lst false false (List.map (AV.int .u8) v5)), (11, AV.str v9), (12, AV.int .i64 0), (33, AV.int .i64 v2), (34, AV.int .i64 v6)] [(0, .grow (List.map (AV.int .i64) v7))] 1 (by simp [F10]) (by simp [F10]) (by simp) ?_
      refine AW.seq fun K2411 hK2411 => ?_
      refine AW.seqR mixed [] [none] (by kernel_rfl) fun G2412 R2412 hG2412 hR2412 => ?_
      try simp [F10]
      repeat' apply And.intro
      any_goals (first | exact hG2412 _ (by kernel_rfl) | refine hR2412 _ _ _ ?_ | omega | (unfold maxLen; omega) | (simp [F10]; done) | (simp [F10]; omega))
      refine AW.wk [(8, AV.slc 0 0 1 v7.length false), (9, AV.lst false false (List.map (AV.int .u8) v5)), (11, AV.str v9), (12, AV.int .i64 0), (33, AV.int .i64 v2), (34, AV.int .i64 v6), (47, AV.int .i64 0)] [(0, .grow (List.map (AV.int .i64) v7))] 1 (by simp [F10]) (by simp [F10]) (by simp) ?_
      refine AW.block ?_
      refine AW.loopF (α := (Int × Int)) (fun n (v10, v11) => beacon_Numbers.L2 k v6 v7 v9 (fun v6_ v7_ => beacon_Numbers.L1 k v2 v5 n1 v6_ v7_) n v10 v11 = some (v3, v4)) (fun (v10, v11) => [(8, AV.slc 0 0 1 v7.length false), (9, AV.lst false false (List.map (AV.int .u8) v5)), (11, AV.str v9), (12, AV.int .i64 v10), (33, AV.int .i64 v2), (34, AV.int .i64 v6), (47, AV.int .i64 v11)]) (fun (v10, v11) => [(0, .grow (List.map (AV.int .i64) v7))]) 1 k ((0, 0)) hF (by simp [F10]) (by simp [F10]) (by simp) ?_
      rintro (_|n2) ⟨v10, v11⟩ hF K2437 hK2437
      ·try dsimp only at hF
       rw [beacon_Numbers.L2] at hF; cases hF
      try dsimp only at hF
      rw [beacon_Numbers.L2] at hF
      refine AW.seqR mixed [] [none] (by kernel_rfl) fun G2438 R2438 hG2438 hR2438 => ?_
      try simp [F10]
      repeat' apply And.intro
      any_goals (first | exact hG2438 _ (by kernel_rfl) | refine hR2438 _ _ _ ?_ | omega | (unfold maxLen; omega) | (simp [F10]; done) | (simp [F10]; omega))
      refine AW.wk [(8, AV.slc 0 0 1 v7.length false), (9, AV.lst false false (List.map (AV.int .u8) v5)), (11, AV.str v9), (12, AV.int .i64 v10), (33, AV.int .i64 v2), (34, AV.int .i64 v6), (47, AV.int .i64 v11), (48, AV.bool (decide (v11 < 4)))] [(0, .grow (List.map (AV.int .i64) v7))] 1 (by simp [F10]) (by simp [F10]) (by simp) ?_
      refine AW.seq fun K2439 hK2439 => ?_
      by_cases h11 : v11 < 4
      ·replace hF := ite_t h11 hF
       have h11_ := h11
       try simp at h11_
       have F11 := And.intro F10 (And.intro h11 h11_)
       refine AW.condT (by decide) (by first | (simp [F11]; done) | (simp [F11]; omega)) ?_
       refine AW.skip ?_
       refine hK2439 _ _ _ ?_
       refine AW.seq fun K2442 hK2442 => ?_
       refine AW.block ?_
       refine AW.seqR mixed [] [none, none] (by kernel_rfl) fun G2443 R2443 hG2443 hR2443 => ?_
       try simp [F11]
       repeat' apply And.intro
       any_goals (first | exact hG2443 _ (by kernel_rfl) | refine hR2443 _ _ _ ?_ | omega | (unfold maxLen; omega) | (simp [F11]; done) | (simp [F11]; omega))
       refine AW.wk [(8, AV.slc 0 0 1 v7.length false), (9, AV.lst false false (List.map (AV.int .u8) v5)), (11, AV.str v9), (12, AV.int .i64 v10), (13, AV.int .i64 v11), (33, AV.int .i64 v2), (34, AV.int .i64 v6), (47, AV.int .i64 v11)] [(0, .grow (List.map (AV.int .i64) v7))] 1 (by simp [F11]) (by simp [F11]) (by simp) ?_
       refine AW.region mixed [] [none, none, none, none, none, none, none, none] (by kernel_rfl) fun G2444 R2444 hG2444 hR2444 => ?_
       obtain ⟨v12, h12, h13, h14, hF⟩ := idx_elim hF
       have h14_ := get_of h14
       have h13_ := h13
       simp at h13_
       have h12_ := h12
       try simp at h12_
       have h14__ := h14_
       try simp [bI] at h14__
       have h14b := bI_at h14
       try simp at h14b
       have F12 := And.intro F11 (And.intro h12 (And.intro h12_ (And.intro h13_ (And.intro h14 (And.intro h14_ (And.intro h14__ h14b))))))
       try simp [F12]
       repeat' apply And.intro
       any_goals (first | exact hG2444 _ (by kernel_rfl) | refine hR2444 _ _ _ ?_ | omega | (unfold maxLen; omega) | (simp [F12]; done) | (simp [F12]; omega))
       refine hK2442 _ _ _ ?_
       refine AW.wk [(8, AV.slc 0 0 1 v7.length false), (9, AV.lst false false (List.map (AV.int .u8) v5)), (11, AV.str v9), (12, AV.int .i64 (bitsV .or .i64 (IntKind.wrap .i64 (v10 * 2 ^ (8))) (IntKind.wrap .i64 v12))), (33, AV.int .i64 v2), (34, AV.int .i64 v6), (47, AV.int .i64 v11)] [(0, .grow (List.map (AV.int .i64) v7))] 1 (by simp [F12]) (by simp [F12]) (by simp) ?_
       refine AW.region mixed [] [none, none] (by kernel_rfl) fun G2445 R2445 hG2445 hR2445 => ?_
       try simp [F12]
       repeat' apply And.intro
       any_goals (first | exact hG2445 _ (by kernel_rfl) | refine hR2445 _ _ _ ?_ | omega | (unfold maxLen; omega) | (simp [F12]; done) | (simp [F12]; omega))
       refine hK2437 _ _ _ ?_
       refine Can.weak [(8, AV.slc 0 0 1 v7.length false), (9, AV.lst false false (List.map (AV.int .u8) v5)), (11, AV.str v9), (12, AV.int .i64 (bitsV .or .i64 (IntKind.wrap .i64 (v10 * 2 ^ (8))) (IntKind.wrap .i64 v12))), (33, AV.int .i64 v2), (34, AV.int .i64 v6), (47, AV.int .i64 (IntKind.wrap .i64 (v11 + 1)))] [(0, .grow (List.map (AV.int .i64) v7))] 1 (by simp [F12]) (by simp [F12]) (by simp) ?_
       exact Can.next (k' := n2) ((bitsV .or .i64 (IntKind.wrap .i64 (v10 * 2 ^ (8))) (IntKind.wrap .i64 v12), IntKind.wrap .i64 (v11 + 1))) (by omega) hF (by simp [F12]) (by simp [F12]) (by simp)
      ·replace hF := ite_f h11 hF
       have h11_ := h11
       try simp at h11_
       have F13 := And.intro F10 (And.intro h11 h11_)
       refine AW.condF (by decide) (by first | (simp [F13]; done) | (simp [F13]; omega)) ?_
       refine AW.exit ?_
       try simp
       refine hK2411 _ _ _ ?_
       refine AW.region mixed [] [none, none, none, none, none] (by kernel_rfl) fun G2446 R2446 hG2446 hR2446 => ?_
       obtain ⟨h15, hF⟩ := chk_elim hF
       have h15_ := h15
       try simp at h15_
       have F14 := And.intro F13 h15
       try simp [F14]
       repeat' apply And.intro
       any_goals (first | exact hG2446 _ (by kernel_rfl) | refine hR2446 _ _ _ ?_ | omega | (unfold maxLen; omega) | (simp [F14]; done) | (simp [F14]; omega))
       refine hK2373 _ _ _ ?_
       refine AW.wk [(8, AV.slc 1 0 1 ((v7 ++ ([v10] : List Int)).length) false), (9, AV.lst false false (List.map (AV.int .u8) v5)), (33, AV.int .i64 v2), (34, AV.int .i64 v6)] [(1, .grow (List.map (AV.int .i64) (v7 ++ ([v10] : List Int))))] 2 (by simp [F14] <;> omega) (by simp [F14]) (by simp) ?_
       refine AW.region mixed [] [none, none] (by kernel_rfl) fun G2447 R2447 hG2447 hR2447 => ?_
       try simp [F14]
       repeat' apply And.intro
       any_goals (first | exact hG2447 _ (by kernel_rfl) | refine hR2447 _ _ _ ?_ | omega | (unfold maxLen; omega) | (simp [F14]; done) | (simp [F14]; omega))
       refine hK2297 _ _ _ ?_
       refine Can.weak [(8, AV.slc 1 0 1 ((v7 ++ ([v10] : List Int)).length) false), (9, AV.lst false false (List.map (AV.int .u8) v5)), (33, AV.int .i64 v2), (34, AV.int .i64 (IntKind.wrap .i64 (v6 + 1)))] [(1, .grow (List.map (AV.int .i64) (v7 ++ ([v10] : List Int))))] 2 (by simp [F14] <;> omega) (by simp [F14]) (by simp) ?_
       refine Can.ren (m := 0) h0 [(0, 1)] [(8, AV.slc 0 0 1 ((v7 ++ ([v10] : List Int)).length) false), (9, AV.lst false false (List.map (AV.int .u8) v5)), (33, AV.int .i64 v2), (34, AV.int .i64 (IntKind.wrap .i64 (v6 + 1)))] [(0, .grow (List.map (AV.int .i64) (v7 ++ ([v10] : List Int))))] 1 (by decide) (by decide) (by decide) rfl (by simp [F14]) (by simp [F14]) ?_
       exact Can.next (k' := n1) ((IntKind.wrap .i64 (v6 + 1), v7 ++ ([v10] : List Int))) (by omega) hF (by simp [F14]) (by simp [F14]) (by simp)
     ·replace hF := ite_f h6 hF
      have h6_ := h6
      try simp at h6_
      have F15 := And.intro F8 (And.intro h6 h6_)
      refine AW.condF (by decide) (by first | (simp [F15]; done) | (simp [F15]; omega)) ?_
      refine AW.exit ?_
      try simp
      refine hK1845 _ _ _ ?_
      refine AW.seqR mixed [] [none, none, none] (by kernel_rfl) fun G2448 R2448 hG2448 hR2448 => ?_
      try simp [F15]
      repeat' apply And.intro
      any_goals (first | exact hG2448 _ (by kernel_rfl) | refine hR2448 _ _ _ ?_ | omega | (unfold maxLen; omega) | (simp [F15]; done) | (simp [F15]; omega))
      refine AW.wk [(6, AV.slc 0 0 1 v7.length false), (7, AV.int .i64 0)] [(0, .grow (List.map (AV.int .i64) v7))] 1 (by simp [F15]) (by simp [F15]) (by simp) ?_
      simp only [Option.some.injEq, Prod.mk.injEq] at hF
      obtain ⟨e0, e1⟩ := hF
      subst e0 e1
      refine AW.ret (hQ _ _ _ ?_ (matchO_0 ?_)).1
      ·simp [Try.f41, F15]
      ·simp [F15]
set_option maxHeartbeats 4000000 in
theorem w_committee_draw (k : Nat) (v0 : (List Int)) (v1 : (List Int)) (v2 : (List Int)) (v3 : Int) (v4 : Int) (v5 : Int) (v6 : Int) (v7 : ByteArray) (v8 : (List Int)) (v9 : Int) (v10 : Int) (v11 : Int) (v12 : Int) (v13 : Int) (v14 : (List Int)) (v15 : Int) (hF : committee_draw k v0 v1 v2 v3 v4 v5 v6 v7 v8 v9 v10 v11 v12 v13 = some (v14, v15)) :
  FCall Try.prog 87 [AV.agg [AV.lst false false (List.map (AV.int .i64) v0), AV.lst false false (List.map (AV.int .i64) v1), AV.lst false false (List.map (AV.int .i64) v2), AV.int .i64 v3, AV.int .i64 v4, AV.int .i64 v5, AV.int .i64 v6], AV.str v7, AV.lst false false (List.map (AV.int .i64) v8), AV.agg [AV.int .i64 v9, AV.int .i64 v10, AV.int .i64 v11, AV.int .i64 v12], AV.int .i64 v13] [] (AV.tup [AV.slc 0 0 1 v14.length false, AV.int .i64 v15]) [some (.grow (List.map (AV.int .i64) v14))] := by
 unfold committee_draw at hF
 refine FCall.enter Try.func87 rfl (by simp) (by decide) (by simp) (by simp) (by simp) (by simp) (by simp) ?_
 intro c0 w0 Q h0 hQ
 refine AW.wk [(0, AV.agg [AV.lst false false (List.map (AV.int .i64) v0), AV.lst false false (List.map (AV.int .i64) v1), AV.lst false false (List.map (AV.int .i64) v2), AV.int .i64 v3, AV.int .i64 v4, AV.int .i64 v5, AV.int .i64 v6]), (1, AV.str v7), (2, AV.lst false false (List.map (AV.int .i64) v8)), (3, AV.agg [AV.int .i64 v9, AV.int .i64 v10, AV.int .i64 v11, AV.int .i64 v12]), (4, AV.int .i64 v13)] [] 0 (by simp) (by simp) (by simp) ?_
 refine AW.seqR mixed [] [none, none, none, none] (by kernel_rfl) fun G9 R9 hG9 hR9 => ?_
 try simp
 repeat' apply And.intro
 any_goals (first | exact hG9 _ (by kernel_rfl) | refine hR9 _ _ _ ?_ | omega | (unfold maxLen; omega) | (simp; done) | (simp; omega))
 refine AW.wk [(1, AV.str v7), (2, AV.lst false false (List.map (AV.int .i64) v8)), (4, AV.int .i64 v13), (5, AV.ptr 0 0), (8, AV.ptr 1 0)] [(0, .cells [AV.lst false false (List.map (AV.int .i64) v0), AV.lst false false (List.map (AV.int .i64) v1), AV.lst false false (List.map (AV.int .i64) v2), AV.int .i64 v3, AV.int .i64 v4, AV.int .i64 v5, AV.int .i64 v6]), (1, .cells [AV.int .i64 v9, AV.int .i64 v10, AV.int .i64 v11, AV.int .i64 v12])] 2 (by simp) (by simp) (by simp) ?_
 refine AW.seqR mixed [] [none, none, none, none, none, none, none, none, none, none, none, none, none, none, none] (by kernel_rfl) fun G10 R10 hG10 hR10 => ?_
 try simp
 repeat' apply And.intro
 try any_goals (first | omega | (unfold maxLen; omega) | (simp; done))
 obtain ⟨v16, v17, h1, hF⟩ := bnd2_elim hF
 refine aCall_l (w_beacon_Numbers k _ _ _ _ _ h1) (by simp) [] [] [] rfl (.cons (.same (by simp)) (.cons (Coe.fl (by simp)) (.cons (.same (by simp)) .nil))) (by simp) (by decide) (by simp) (by simp) (.inl rfl) (by simp) (by simp) ?_
 try simp
 repeat' apply And.intro
 any_goals (first | exact hG10 _ (by kernel_rfl) | refine hR10 _ _ _ ?_ | omega | (unfold maxLen; omega) | (simp; done) | (simp; omega))
 refine AW.wk [(2, AV.lst false false (List.map (AV.int .i64) v8)), (5, AV.ptr 0 0), (12, AV.slc 2 0 1 v16.length false), (13, AV.int .i64 v17)] [(0, .cells [AV.lst false false (List.map (AV.int .i64) v0), AV.lst false false (List.map (AV.int .i64) v1), AV.lst false false (List.map (AV.int .i64) v2), AV.int .i64 v3, AV.int .i64 v4, AV.int .i64 v5, AV.int .i64 v6]), (2, .grow (List.map (AV.int .i64) v16))] 3 (by simp) (by simp) (by simp) ?_
 refine AW.frz 2 (o := .grow (List.map (AV.int .i64) v16)) (by simp) rfl [(12, AV.lst false false (List.map (AV.int .i64) v16))] [] ⟨(.l (by simp) (by simp) (by simp) (by simp)), trivial⟩ trivial ?_
 refine AW.wk [(2, AV.lst false false (List.map (AV.int .i64) v8)), (5, AV.ptr 0 0), (12, AV.lst false false (List.map (AV.int .i64) v16)), (13, AV.int .i64 v17)] [(0, .cells [AV.lst false false (List.map (AV.int .i64) v0), AV.lst false false (List.map (AV.int .i64) v1), AV.lst false false (List.map (AV.int .i64) v2), AV.int .i64 v3, AV.int .i64 v4, AV.int .i64 v5, AV.int .i64 v6])] 3 (by simp) (by simp) (by simp) ?_
 refine AW.seq fun K13 hK13 => ?_
 refine AW.seqR mixed [] [none, none] (by kernel_rfl) fun G14 R14 hG14 hR14 => ?_
 try simp
 repeat' apply And.intro
 any_goals (first | exact hG14 _ (by kernel_rfl) | refine hR14 _ _ _ ?_ | omega | (unfold maxLen; omega) | (simp; done) | (simp; omega))
 refine AW.wk [(2, AV.lst false false (List.map (AV.int .i64) v8)), (5, AV.ptr 0 0), (12, AV.lst false false (List.map (AV.int .i64) v16)), (13, AV.int .i64 v17), (28, AV.bool (v17 != 0))] [(0, .cells [AV.lst false false (List.map (AV.int .i64) v0), AV.lst false false (List.map (AV.int .i64) v1), AV.lst false false (List.map (AV.int .i64) v2), AV.int .i64 v3, AV.int .i64 v4, AV.int .i64 v5, AV.int .i64 v6])] 3 (by simp) (by simp) (by simp) ?_
 by_cases h2 : v17 ≠ 0
 ·replace hF := ite_t h2 hF
  have h2_ := eqb_f h2
  have h2__ := neb_t h2
  have F1 := And.intro h2 (And.intro h2_ h2__)
  refine AW.condT (by decide) (by first | (simp [F1]; done) | (simp [F1]; omega)) ?_
  refine AW.seqR mixed [] [none, none, none] (by kernel_rfl) fun G15 R15 hG15 hR15 => ?_
  try simp [F1]
  repeat' apply And.intro
  any_goals (first | exact hG15 _ (by kernel_rfl) | refine hR15 _ _ _ ?_ | omega | (unfold maxLen; omega) | (simp [F1]; done) | (simp [F1]; omega))
  refine AW.wk [(10, AV.lst true true (List.map (AV.int .i64) ([] : List Int))), (11, AV.int .i64 v17)] [] 3 (by simp [F1]) (by simp [F1]) (by simp) ?_
  refine AW.own' 10 1 true (by simp [F1]) (by decide) ?_
  refine AW.rnm (m := 0) h0 [(0, 3)] [(10, AV.slc 0 0 1 (([] : List Int).length) false), (11, AV.int .i64 v17)] [(0, .grow (List.map (AV.int .i64) ([] : List Int)))] 1 (by decide) (by decide) (by decide) rfl (by simp [F1]) (by simp [F1]) ?_
  simp only [Option.some.injEq, Prod.mk.injEq] at hF
  obtain ⟨e0, e1⟩ := hF
  subst e0 e1
  refine AW.ret (hQ _ _ _ ?_ (matchO_0 ?_)).1
  ·simp [Try.f87, F1]
  ·simp [F1]
 ·replace hF := ite_f h2 hF
  have h2q : v17 = 0 := Classical.not_not.1 h2
  have h2_ := eqb_t h2q
  have h2__ := neb_f h2q
  have F2 := And.intro h2_ (And.intro h2__ h2q)
  refine AW.condF (by decide) (by first | (simp [F2]; done) | (simp [F2]; omega)) ?_
  refine AW.skip ?_
  refine hK13 _ _ _ ?_
  refine AW.seqR mixed [] [none, none, none, none, none, none, none, none, none] (by kernel_rfl) fun G16 R16 hG16 hR16 => ?_
  try simp [F2]
  repeat' apply And.intro
  try any_goals (first | omega | (unfold maxLen; omega) | (simp [F2]; done))
  obtain ⟨v18, v19, h3, hF⟩ := bnd2_elim hF
  refine aCall_l (w_committee_Draw k _ _ _ _ _ h3) (by simp) [] [] [] rfl (.cons (.same (by simp [F2])) (.cons (.same (by simp [F2])) (.cons (.same (by simp [F2])) .nil))) (by simp [F2]) (by decide) (by simp) (by simp) (.inl rfl) (by simp) (by simp) ?_
  try simp [F2]
  repeat' apply And.intro
  any_goals (first | exact hG16 _ (by kernel_rfl) | refine hR16 _ _ _ ?_ | omega | (unfold maxLen; omega) | (simp [F2]; done) | (simp [F2]; omega))
  refine AW.wk [(10, AV.slc 3 0 1 v18.length false), (11, AV.int .i64 v19)] [(3, .grow (List.map (AV.int .i64) v18))] 4 (by simp [F2]) (by simp [F2]) (by simp) ?_
  refine AW.rnm (m := 0) h0 [(0, 3)] [(10, AV.slc 0 0 1 v18.length false), (11, AV.int .i64 v19)] [(0, .grow (List.map (AV.int .i64) v18))] 1 (by decide) (by decide) (by decide) rfl (by simp [F2]) (by simp [F2]) ?_
  simp only [Option.some.injEq, Prod.mk.injEq] at hF
  obtain ⟨e0, e1⟩ := hF
  subst e0 e1
  refine AW.ret (hQ _ _ _ ?_ (matchO_0 ?_)).1
  ·simp [Try.f87, F2]
  ·simp [F2]
set_option maxHeartbeats 4000000 in
theorem w_roster_Minus_1 (k : Nat) (v0 : Int) (v1 : (List Bool)) (v2 : (List Bool)) (v3 : Bool) (hF : roster_Minus_1 k v0 v1 v2 = some v3) :
  FCall Try.prog 115 [AV.int .i64 v0, AV.ptr 0 0, AV.ptr 1 0] [.cells (List.map AV.bool v1), .cells (List.map AV.bool v2)] (AV.bool v3) [some (.cells (List.map AV.bool v1)), some (.cells (List.map AV.bool v2))] := by
 unfold roster_Minus_1 at hF
 refine FCall.enter Try.func115 rfl (by simp) (by decide) (by simp) (by simp) (by simp) (by simp) (by simp) ?_
 intro c0 w0 Q h0 hQ
 refine AW.wk [(0, AV.int .i64 v0), (1, AV.ptr 0 0), (2, AV.ptr 1 0)] [(0, .cells (List.map AV.bool v1)), (1, .cells (List.map AV.bool v2))] 2 (by simp) (by simp) (by simp) ?_
 refine AW.seqR mixed [] [none] (by kernel_rfl) fun G3 R3 hG3 hR3 => ?_
 try simp
 repeat' apply And.intro
 any_goals (first | exact hG3 _ (by kernel_rfl) | refine hR3 _ _ _ ?_ | omega | (unfold maxLen; omega) | (simp; done) | (simp; omega))
 refine AW.wk [(0, AV.int .i64 v0), (1, AV.ptr 0 0), (2, AV.ptr 1 0)] [(0, .cells (List.map AV.bool v1)), (1, .cells (List.map AV.bool v2))] 2 (by simp) (by simp) (by simp) ?_
 refine AW.seqR mixed [] [none, none, none, none, some (8, true), some (8, true), some (8, true), some (8, true), none, none] (by kernel_rfl) fun G4 R4 hG4 hR4 => ?_
 obtain ⟨⟨h1, h3, h2⟩, hF⟩ := chk_elim hF
 have h2_ := ne_of_lt h2
 obtain ⟨v4, h4, h5, h6, hF⟩ := idx_elim hF
 have h6_ := get_of h6
 try simp at h6_
 have h5_ := h5
 try simp at h5_
 by_cases h7 : v4 = true
 ·replace hF := ite_t h7 hF
  have h7_ := h7
  try simp at h7_
  obtain ⟨⟨h8, h10, h9⟩, hF⟩ := chk_elim hF
  have h9_ := ne_of_lt h9
  obtain ⟨v5, h11, h12, h13, hF⟩ := idx_elim hF
  have h13_ := get_of h13
  try simp at h13_
  have h12_ := h12
  try simp at h12_
  have F1 := And.intro h1 (And.intro h2 (And.intro h3 (And.intro h2_ (And.intro h4 (And.intro h5 (And.intro h6 (And.intro h6_ (And.intro h5_ (And.intro h7 (And.intro h7_ (And.intro h8 (And.intro h9 (And.intro h10 (And.intro h9_ (And.intro h11 (And.intro h12 (And.intro h13 (And.intro h13_ h12_))))))))))))))))))
  try simp [F1]
  repeat' apply And.intro
  any_goals (first | exact hG4 _ (by kernel_rfl) | refine hR4 _ _ _ ?_ | omega | (unfold maxLen; omega) | (simp [F1]; done) | (simp [F1]; omega))
  refine AW.wk [(4, AV.bool (!v5))] [(0, .cells (List.map AV.bool v1)), (1, .cells (List.map AV.bool v2))] 2 (by simp [F1]) (by simp [F1]) (by simp) ?_
  simp only [Option.some.injEq] at hF
  subst hF
  refine AW.ret (hQ _ _ _ ?_ (matchO_0 ?_)).1
  ·simp [Try.f115, F1]
  ·simp [F1]
 ·replace hF := ite_f h7 hF
  have h7_ := h7
  try simp at h7_
  have F2 := And.intro h1 (And.intro h2 (And.intro h3 (And.intro h2_ (And.intro h4 (And.intro h5 (And.intro h6 (And.intro h6_ (And.intro h5_ (And.intro h7 h7_)))))))))
  try simp [F2]
  repeat' apply And.intro
  any_goals (first | exact hG4 _ (by kernel_rfl) | refine hR4 _ _ _ ?_ | omega | (unfold maxLen; omega) | (simp [F2]; done) | (simp [F2]; omega))
  refine AW.wk [(4, AV.bool false)] [(0, .cells (List.map AV.bool v1)), (1, .cells (List.map AV.bool v2))] 2 (by simp [F2]) (by simp [F2]) (by simp) ?_
  simp only [Option.some.injEq] at hF
  subst hF
  refine AW.ret (hQ _ _ _ ?_ (matchO_0 ?_)).1
  ·simp [Try.f115, F2]
  ·simp [F2]
set_option maxHeartbeats 4000000 in
theorem w_roster_keys_Minus_1 (k : Nat) (v0 : (List Bool)) (v1 : (List Bool)) (v2 : (List Int)) (hF : roster_keys_Minus_1 k v0 v1 = some v2) :
  FCall Try.prog 114 [AV.fn 115 [AV.ptr 0 0, AV.ptr 1 0]] [.cells (List.map AV.bool v0), .cells (List.map AV.bool v1)] (AV.slc 2 0 1 v2.length false) [some (.cells (List.map AV.bool v0)), some (.cells (List.map AV.bool v1)), some (.grow (List.map (AV.int .i64) v2))] := by
 unfold roster_keys_Minus_1 at hF
 refine FCall.enter Try.func114 rfl (by simp) (by decide) (by simp) (by simp) (by simp) (by simp) (by simp) ?_
 intro c0 w0 Q h0 hQ
 refine AW.wk [(0, AV.fn 115 [AV.ptr 0 0, AV.ptr 1 0])] [(0, .cells (List.map AV.bool v0)), (1, .cells (List.map AV.bool v1))] 2 (by simp) (by simp) (by simp) ?_
 refine AW.seqR mixed [] [none] (by kernel_rfl) fun G89 R89 hG89 hR89 => ?_
 try simp
 repeat' apply And.intro
 any_goals (first | exact hG89 _ (by kernel_rfl) | refine hR89 _ _ _ ?_ | omega | (unfold maxLen; omega) | (simp; done) | (simp; omega))
 refine AW.wk [(0, AV.fn 115 [AV.ptr 0 0, AV.ptr 1 0])] [(0, .cells (List.map AV.bool v0)), (1, .cells (List.map AV.bool v1))] 2 (by simp) (by simp) (by simp) ?_
 refine AW.seqR mixed [] [none] (by kernel_rfl) fun G90 R90 hG90 hR90 => ?_
 try simp
 repeat' apply And.intro
 any_goals (first | exact hG90 _ (by kernel_rfl) | refine hR90 _ _ _ ?_ | omega | (unfold maxLen; omega) | (simp; done) | (simp; omega))
 refine AW.wk [(0, AV.fn 115 [AV.ptr 0 0, AV.ptr 1 0]), (3, AV.lst true true (List.map (AV.int .i64) ([] : List Int)))] [(0, .cells (List.map AV.bool v0)), (1, .cells (List.map AV.bool v1))] 2 (by simp) (by simp) (by simp) ?_
 refine AW.seq fun K133 hK133 => ?_
 refine AW.seqR mixed [] [none] (by kernel_rfl) fun G134 R134 hG134 hR134 => ?_
 try simp
 repeat' apply And.intro
 any_goals (first | exact hG134 _ (by kernel_rfl) | refine hR134 _ _ _ ?_ | omega | (unfold maxLen; omega) | (simp; done) | (simp; omega))
 refine AW.wk [(0, AV.fn 115 [AV.ptr 0 0, AV.ptr 1 0]), (3, AV.lst true true (List.map (AV.int .i64) ([] : List Int))), (5, AV.int .i64 0)] [(0, .cells (List.map AV.bool v0)), (1, .cells (List.map AV.bool v1))] 2 (by simp) (by simp) (by simp) ?_
 refine AW.block ?_
 refine AW.own' 3 1 true (by simp) (by decide) ?_
 refine AW.loopF (α := (Int × (List Int))) (fun n (v3, v4) => roster_keys_Minus_1.L1 k v0 v1 n v3 v4 = some v2) (fun (v3, v4) => [(0, AV.fn 115 [AV.ptr 0 0, AV.ptr 1 0]), (3, AV.slc 2 0 1 v4.length false), (5, AV.int .i64 v3)]) (fun (v3, v4) => [(0, .cells (List.map AV.bool v0)), (1, .cells (List.map AV.bool v1)), (2, .grow (List.map (AV.int .i64) v4))]) 3 k ((0, ([] : List Int))) hF (by simp) (by simp) (by simp) ?_
 rintro (_|n1) ⟨v3, v4⟩ hF K165 hK165
 ·try dsimp only at hF
  rw [roster_keys_Minus_1.L1] at hF; cases hF
 try dsimp only at hF
 rw [roster_keys_Minus_1.L1] at hF
 refine AW.seqR mixed [] [none] (by kernel_rfl) fun G166 R166 hG166 hR166 => ?_
 try simp
 repeat' apply And.intro
 any_goals (first | exact hG166 _ (by kernel_rfl) | refine hR166 _ _ _ ?_ | omega | (unfold maxLen; omega) | (simp; done) | (simp; omega))
 refine AW.wk [(0, AV.fn 115 [AV.ptr 0 0, AV.ptr 1 0]), (3, AV.slc 2 0 1 v4.length false), (5, AV.int .i64 v3), (6, AV.bool (decide (v3 < 64)))] [(0, .cells (List.map AV.bool v0)), (1, .cells (List.map AV.bool v1)), (2, .grow (List.map (AV.int .i64) v4))] 3 (by simp) (by simp) (by simp) ?_
 refine AW.seq fun K167 hK167 => ?_
 by_cases h1 : v3 < 64
 ·replace hF := ite_t h1 hF
  have h1_ := h1
  try simp at h1_
  refine AW.condT (by decide) (by first | (simp [h1, h1_]; done) | (simp [h1, h1_]; omega)) ?_
  refine AW.skip ?_
  refine hK167 _ _ _ ?_
  refine AW.midF (α := (List Int)) (fun v5 => roster_keys_Minus_1.J2 k v3 (fun v3_ v4_ => roster_keys_Minus_1.L1 k v0 v1 n1 v3_ v4_) v5 = some v2) (fun v5 => [(0, AV.fn 115 [AV.ptr 0 0, AV.ptr 1 0]), (3, AV.slc 2 0 1 v5.length false), (5, AV.int .i64 v3)]) (fun v5 => [(0, .cells (List.map AV.bool v0)), (1, .cells (List.map AV.bool v1)), (2, .grow (List.map (AV.int .i64) v5))]) 3 (fun K172 hK172 => ?_) ?_
  ·refine AW.block ?_
   refine AW.seqR mixed [] [none, none] (by kernel_rfl) fun G173 R173 hG173 hR173 => ?_
   try simp [h1, h1_]
   repeat' apply And.intro
   any_goals (first | exact hG173 _ (by kernel_rfl) | refine hR173 _ _ _ ?_ | omega | (unfold maxLen; omega) | (simp [h1, h1_]; done) | (simp [h1, h1_]; omega))
   refine AW.wk [(0, AV.fn 115 [AV.ptr 0 0, AV.ptr 1 0]), (3, AV.slc 2 0 1 v4.length false), (4, AV.int .i64 v3), (5, AV.int .i64 v3)] [(0, .cells (List.map AV.bool v0)), (1, .cells (List.map AV.bool v1)), (2, .grow (List.map (AV.int .i64) v4))] 3 (by simp [h1, h1_]) (by simp [h1, h1_]) (by simp) ?_
   refine AW.seqR mixed [] [none, none, none] (by kernel_rfl) fun G174 R174 hG174 hR174 => ?_
   try simp [h1, h1_]
   repeat' apply And.intro
   try any_goals (first | omega | (unfold maxLen; omega) | (simp [h1, h1_]; done))
   obtain ⟨v6, h2, hF⟩ := bnd1_elim hF
   refine aCall_l (w_roster_Minus_1 k _ _ _ _ h2) (by simp) [0, 1] [] [] rfl (.cons (.same (by simp [h1, h1_])) (.cons (.same (by simp [h1, h1_])) (.cons (.same (by simp [h1, h1_])) .nil))) (by simp [h1, h1_]) (by decide) (by simp) (by simp) (.inl rfl) (by simp) (by simp) ?_
   try simp [h1, h1_]
   repeat' apply And.intro
   any_goals (first | exact hG174 _ (by kernel_rfl) | refine hR174 _ _ _ ?_ | omega | (unfold maxLen; omega) | (simp [h1, h1_]; done) | (simp [h1, h1_]; omega))
   refine AW.wk [(0, AV.fn 115 [AV.ptr 0 0, AV.ptr 1 0]), (3, AV.slc 2 0 1 v4.length false), (4, AV.int .i64 v3), (5, AV.int .i64 v3), (10, AV.bool v6)] [(0, .cells (List.map AV.bool v0)), (1, .cells (List.map AV.bool v1)), (2, .grow (List.map (AV.int .i64) v4))] 3 (by simp [h1, h1_]) (by simp [h1, h1_]) (by simp) ?_
   by_cases h3 : v6 = true
   ·replace hF := ite_t h3 hF
    have h3_ := h3
    try simp at h3_
    have F1 := And.intro h1 (And.intro h1_ (And.intro h3 h3_))
    refine AW.condT (by decide) (by first | (simp [F1]; done) | (simp [F1]; omega)) ?_
    refine AW.region mixed [] [none, none, none, none, none] (by kernel_rfl) fun G175 R175 hG175 hR175 => ?_
    obtain ⟨h4, hF⟩ := chk_elim hF
    have h4_ := h4
    try simp at h4_
    have F2 := And.intro F1 h4
    try simp [F2]
    repeat' apply And.intro
    any_goals (first | exact hG175 _ (by kernel_rfl) | refine hR175 _ _ _ ?_ | omega | (unfold maxLen; omega) | (simp [F2]; done) | (simp [F2]; omega))
    refine hK172 _ _ _ ?_
    refine Can.weak [(0, AV.fn 115 [AV.ptr 0 0, AV.ptr 1 0]), (3, AV.slc 3 0 1 ((v4 ++ ([v3] : List Int)).length) false), (5, AV.int .i64 v3)] [(0, .cells (List.map AV.bool v0)), (1, .cells (List.map AV.bool v1)), (3, .grow (List.map (AV.int .i64) (v4 ++ ([v3] : List Int))))] 4 (by simp [F2] <;> omega) (by simp [F2]) (by simp) ?_
    refine Can.ren (m := 2) h0 [(0, 0), (1, 1), (2, 3)] [(0, AV.fn 115 [AV.ptr 0 0, AV.ptr 1 0]), (3, AV.slc 2 0 1 ((v4 ++ ([v3] : List Int)).length) false), (5, AV.int .i64 v3)] [(0, .cells (List.map AV.bool v0)), (1, .cells (List.map AV.bool v1)), (2, .grow (List.map (AV.int .i64) (v4 ++ ([v3] : List Int))))] 3 (by decide) (by decide) (by decide) rfl (by simp [F2]) (by simp [F2]) ?_
    exact Can.join (v4 ++ ([v3] : List Int)) hF (by simp [F2]) (by simp [F2]) (by simp)
   ·replace hF := ite_f h3 hF
    have h3_ := h3
    try simp at h3_
    have F3 := And.intro h1 (And.intro h1_ (And.intro h3 h3_))
    refine AW.condF (by decide) (by first | (simp [F3]; done) | (simp [F3]; omega)) ?_
    refine AW.skip ?_
    refine hK172 _ _ _ ?_
    exact Can.join (v4) hF (by simp [F3]) (by simp [F3]) (by simp)
  ·rintro v5 hF
   try dsimp only at hF
   unfold roster_keys_Minus_1.J2 at hF
   refine AW.region mixed [] [none, none] (by kernel_rfl) fun G171 R171 hG171 hR171 => ?_
   try simp [h1, h1_]
   repeat' apply And.intro
   any_goals (first | exact hG171 _ (by kernel_rfl) | refine hR171 _ _ _ ?_ | omega | (unfold maxLen; omega) | (simp [h1, h1_]; done) | (simp [h1, h1_]; omega))
   refine hK165 _ _ _ ?_
   refine Can.weak [(0, AV.fn 115 [AV.ptr 0 0, AV.ptr 1 0]), (3, AV.slc 2 0 1 v5.length false), (5, AV.int .i64 (IntKind.wrap .i64 (v3 + 1)))] [(0, .cells (List.map AV.bool v0)), (1, .cells (List.map AV.bool v1)), (2, .grow (List.map (AV.int .i64) v5))] 3 (by simp [h1, h1_]) (by simp [h1, h1_]) (by simp) ?_
   exact Can.next (k' := n1) ((IntKind.wrap .i64 (v3 + 1), v5)) (by omega) hF (by simp [h1, h1_]) (by simp [h1, h1_]) (by simp)
 ·replace hF := ite_f h1 hF
  have h1_ := h1
  try simp at h1_
  refine AW.condF (by decide) (by first | (simp [h1, h1_]; done) | (simp [h1, h1_]; omega)) ?_
  refine AW.exit ?_
  try simp
  refine hK133 _ _ _ ?_
  refine AW.seqR mixed [] [none, none] (by kernel_rfl) fun G176 R176 hG176 hR176 => ?_
  try simp [h1, h1_]
  repeat' apply And.intro
  any_goals (first | exact hG176 _ (by kernel_rfl) | refine hR176 _ _ _ ?_ | omega | (unfold maxLen; omega) | (simp [h1, h1_]; done) | (simp [h1, h1_]; omega))
  refine AW.wk [(2, AV.slc 2 0 1 v4.length false)] [(0, .cells (List.map AV.bool v0)), (1, .cells (List.map AV.bool v1)), (2, .grow (List.map (AV.int .i64) v4))] 3 (by simp [h1, h1_]) (by simp [h1, h1_]) (by simp) ?_
  simp only [Option.some.injEq] at hF
  subst hF
  refine AW.ret (hQ _ _ _ ?_ (matchO_0 ?_)).1
  ·simp [Try.f114, h1, h1_]
  ·simp [h1, h1_]
set_option maxHeartbeats 4000000 in
theorem w_roster_Minus (k : Nat) (v0 : (List Int)) (v1 : (List Int)) (v2 : (List Int)) (hF : roster_Minus k v0 v1 = some v2) :
  FCall Try.prog 88 [AV.lst false false (List.map (AV.int .i64) v0), AV.lst false false (List.map (AV.int .i64) v1)] [] (AV.slc 0 0 1 v2.length false) [some (.grow (List.map (AV.int .i64) v2))] := by
 unfold roster_Minus at hF
 refine FCall.enter Try.func88 rfl (by simp) (by decide) (by simp) (by simp) (by simp) (by simp) (by simp) ?_
 intro c0 w0 Q h0 hQ
 refine AW.wk [(0, AV.lst false false (List.map (AV.int .i64) v0)), (1, AV.lst false false (List.map (AV.int .i64) v1))] [] 0 (by simp) (by simp) (by simp) ?_
 refine AW.seqR mixed [] [none] (by kernel_rfl) fun G4 R4 hG4 hR4 => ?_
 try simp
 repeat' apply And.intro
 any_goals (first | exact hG4 _ (by kernel_rfl) | refine hR4 _ _ _ ?_ | omega | (unfold maxLen; omega) | (simp; done) | (simp; omega))
 refine AW.wk [(0, AV.lst false false (List.map (AV.int .i64) v0)), (1, AV.lst false false (List.map (AV.int .i64) v1))] [] 0 (by simp) (by simp) (by simp) ?_
 refine AW.seqR mixed [] [none, none, none, none, none, none, none, none] (by kernel_rfl) fun G5 R5 hG5 hR5 => ?_
 try simp
 repeat' apply And.intro
 try any_goals (first | omega | (unfold maxLen; omega) | (simp; done))
 obtain ⟨v3, h1, hF⟩ := bnd1_elim hF
 refine aCall_l (w_roster_of k _ _ h1) (by simp) [] [] [] rfl (.cons (.same (by simp)) .nil) (by simp) (by decide) (by simp) (by simp) (.inl rfl) (by simp) (by simp) ?_
 try simp
 repeat' apply And.intro
 try any_goals (first | omega | (unfold maxLen; omega) | (simp; done))
 obtain ⟨v4, h2, hF⟩ := bnd1_elim hF
 refine aCall_l (w_roster_of k _ _ h2) (by simp) [] [] [] rfl (.cons (.same (by simp)) .nil) (by simp) (by decide) (by simp) (by simp) (.inl rfl) (by simp) (by simp) ?_
 obtain ⟨h3, hF⟩ := chk_elim hF
 obtain ⟨h4, hF⟩ := chk_elim hF
 try simp [h3, h4]
 repeat' apply And.intro
 any_goals (first | exact hG5 _ (by kernel_rfl) | refine hR5 _ _ _ ?_ | omega | (unfold maxLen; omega) | (simp [h3, h4]; done) | (simp [h3, h4]; omega))
 refine AW.wk [(5, AV.ptr 0 0), (6, AV.ptr 1 0)] [(0, .cells (List.map AV.bool v3)), (1, .cells (List.map AV.bool v4))] 2 (by simp [h3, h4]) (by simp [h3, h4]) (by simp) ?_
 refine AW.seqR mixed [] [none, none, none] (by kernel_rfl) fun G6 R6 hG6 hR6 => ?_
 try simp [h3, h4]
 repeat' apply And.intro
 try any_goals (first | omega | (unfold maxLen; omega) | (simp [h3, h4]; done))
 obtain ⟨v5, h5, hF⟩ := bnd1_elim hF
 refine aCall_l (w_roster_keys_Minus_1 k _ _ _ h5) (by simp) [0, 1] [] [] rfl (.cons (.same (by simp [h3, h4])) .nil) (by simp [h3, h4]) (by decide) (by simp) (by simp) (.inl rfl) (by simp) (by simp) ?_
 try simp [h3, h4]
 repeat' apply And.intro
 any_goals (first | exact hG6 _ (by kernel_rfl) | refine hR6 _ _ _ ?_ | omega | (unfold maxLen; omega) | (simp [h3, h4]; done) | (simp [h3, h4]; omega))
 refine AW.wk [(4, AV.slc 2 0 1 v5.length false)] [(2, .grow (List.map (AV.int .i64) v5))] 3 (by simp [h3, h4]) (by simp [h3, h4]) (by simp) ?_
 refine AW.rnm (m := 0) h0 [(0, 2)] [(4, AV.slc 0 0 1 v5.length false)] [(0, .grow (List.map (AV.int .i64) v5))] 1 (by decide) (by decide) (by decide) rfl (by simp [h3, h4]) (by simp [h3, h4]) ?_
 simp only [Option.some.injEq] at hF
 subst hF
 refine AW.ret (hQ _ _ _ ?_ (matchO_0 ?_)).1
 ·simp [Try.f88, h3, h4]
 ·simp [h3, h4]
set_option maxHeartbeats 4000000 in
theorem w_committee_Of (k : Nat) (v0 : (List Int)) (v1 : (List Int)) (v2 : (List Int)) (v3 : Int) (v4 : Int) (v5 : Int) (v6 : Int) (v7 : ByteArray) (v8 : (List Int)) (v9 : Int) (v10 : Int) (v11 : Int) (v12 : Int) (v13 : (List Int)) (v14 : Int) (hF : committee_Of k v0 v1 v2 v3 v4 v5 v6 v7 v8 v9 v10 v11 v12 = some (v13, v14)) :
  FCall Try.prog 52 [AV.agg [AV.lst false false (List.map (AV.int .i64) v0), AV.lst false false (List.map (AV.int .i64) v1), AV.lst false false (List.map (AV.int .i64) v2), AV.int .i64 v3, AV.int .i64 v4, AV.int .i64 v5, AV.int .i64 v6], AV.str v7, AV.lst false false (List.map (AV.int .i64) v8), AV.agg [AV.int .i64 v9, AV.int .i64 v10, AV.int .i64 v11, AV.int .i64 v12]] [] (AV.tup [AV.slc 0 0 1 v13.length false, AV.int .i64 v14]) [some (.grow (List.map (AV.int .i64) v13))] := by
 unfold committee_Of at hF
 refine FCall.enter Try.func52 rfl (by simp) (by decide) (by simp) (by simp) (by simp) (by simp) (by simp) ?_
 intro c0 w0 Q h0 hQ
 refine AW.wk [(0, AV.agg [AV.lst false false (List.map (AV.int .i64) v0), AV.lst false false (List.map (AV.int .i64) v1), AV.lst false false (List.map (AV.int .i64) v2), AV.int .i64 v3, AV.int .i64 v4, AV.int .i64 v5, AV.int .i64 v6]), (1, AV.str v7), (2, AV.lst false false (List.map (AV.int .i64) v8)), (3, AV.agg [AV.int .i64 v9, AV.int .i64 v10, AV.int .i64 v11, AV.int .i64 v12])] [] 0 (by simp) (by simp) (by simp) ?_
 refine AW.seqR mixed [] [none, none, none, none] (by kernel_rfl) fun G33 R33 hG33 hR33 => ?_
 try simp
 repeat' apply And.intro
 any_goals (first | exact hG33 _ (by kernel_rfl) | refine hR33 _ _ _ ?_ | omega | (unfold maxLen; omega) | (simp; done) | (simp; omega))
 refine AW.wk [(1, AV.str v7), (2, AV.lst false false (List.map (AV.int .i64) v8)), (4, AV.ptr 0 0), (7, AV.ptr 1 0)] [(0, .cells [AV.lst false false (List.map (AV.int .i64) v0), AV.lst false false (List.map (AV.int .i64) v1), AV.lst false false (List.map (AV.int .i64) v2), AV.int .i64 v3, AV.int .i64 v4, AV.int .i64 v5, AV.int .i64 v6]), (1, .cells [AV.int .i64 v9, AV.int .i64 v10, AV.int .i64 v11, AV.int .i64 v12])] 2 (by simp) (by simp) (by simp) ?_
 refine AW.seq fun K37 hK37 => ?_
 refine AW.seqR mixed [] [none, none, none] (by kernel_rfl) fun G38 R38 hG38 hR38 => ?_
 try simp
 repeat' apply And.intro
 try any_goals (first | omega | (unfold maxLen; omega) | (simp; done))
 obtain ⟨v15, h1, hF⟩ := bnd1_elim hF
 refine aCall_l (w_roster_Check k _ _ _ _ _ _ _ _ h1) (by simp) [] [] [] rfl (.cons (.same (by simp)) .nil) (by simp) (by decide) (by simp) (by simp) (.inl rfl) (by simp) (by simp) ?_
 try simp
 repeat' apply And.intro
 any_goals (first | exact hG38 _ (by kernel_rfl) | refine hR38 _ _ _ ?_ | omega | (unfold maxLen; omega) | (simp; done) | (simp; omega))
 refine AW.wk [(1, AV.str v7), (2, AV.lst false false (List.map (AV.int .i64) v8)), (4, AV.ptr 0 0), (7, AV.ptr 1 0), (10, AV.int .i64 v15)] [(0, .cells [AV.lst false false (List.map (AV.int .i64) v0), AV.lst false false (List.map (AV.int .i64) v1), AV.lst false false (List.map (AV.int .i64) v2), AV.int .i64 v3, AV.int .i64 v4, AV.int .i64 v5, AV.int .i64 v6]), (1, .cells [AV.int .i64 v9, AV.int .i64 v10, AV.int .i64 v11, AV.int .i64 v12])] 2 (by simp) (by simp) (by simp) ?_
 refine AW.seqR mixed [] [none, none] (by kernel_rfl) fun G39 R39 hG39 hR39 => ?_
 try simp
 repeat' apply And.intro
 any_goals (first | exact hG39 _ (by kernel_rfl) | refine hR39 _ _ _ ?_ | omega | (unfold maxLen; omega) | (simp; done) | (simp; omega))
 refine AW.wk [(1, AV.str v7), (2, AV.lst false false (List.map (AV.int .i64) v8)), (4, AV.ptr 0 0), (7, AV.ptr 1 0), (10, AV.int .i64 v15), (17, AV.bool (v15 != 0))] [(0, .cells [AV.lst false false (List.map (AV.int .i64) v0), AV.lst false false (List.map (AV.int .i64) v1), AV.lst false false (List.map (AV.int .i64) v2), AV.int .i64 v3, AV.int .i64 v4, AV.int .i64 v5, AV.int .i64 v6]), (1, .cells [AV.int .i64 v9, AV.int .i64 v10, AV.int .i64 v11, AV.int .i64 v12])] 2 (by simp) (by simp) (by simp) ?_
 by_cases h2 : v15 ≠ 0
 ·replace hF := ite_t h2 hF
  have h2_ := eqb_f h2
  have h2__ := neb_t h2
  have F1 := And.intro h2 (And.intro h2_ h2__)
  refine AW.condT (by decide) (by first | (simp [F1]; done) | (simp [F1]; omega)) ?_
  refine AW.seqR mixed [] [none, none, none] (by kernel_rfl) fun G40 R40 hG40 hR40 => ?_
  try simp [F1]
  repeat' apply And.intro
  any_goals (first | exact hG40 _ (by kernel_rfl) | refine hR40 _ _ _ ?_ | omega | (unfold maxLen; omega) | (simp [F1]; done) | (simp [F1]; omega))
  refine AW.wk [(8, AV.lst true true (List.map (AV.int .i64) ([] : List Int))), (9, AV.int .i64 v15)] [] 2 (by simp [F1]) (by simp [F1]) (by simp) ?_
  refine AW.own' 8 1 true (by simp [F1]) (by decide) ?_
  refine AW.rnm (m := 0) h0 [(0, 2)] [(8, AV.slc 0 0 1 (([] : List Int).length) false), (9, AV.int .i64 v15)] [(0, .grow (List.map (AV.int .i64) ([] : List Int)))] 1 (by decide) (by decide) (by decide) rfl (by simp [F1]) (by simp [F1]) ?_
  simp only [Option.some.injEq, Prod.mk.injEq] at hF
  obtain ⟨e0, e1⟩ := hF
  subst e0 e1
  refine AW.ret (hQ _ _ _ ?_ (matchO_0 ?_)).1
  ·simp [Try.f52, F1]
  ·simp [F1]
 ·replace hF := ite_f h2 hF
  have h2q : v15 = 0 := Classical.not_not.1 h2
  have h2_ := eqb_t h2q
  have h2__ := neb_f h2q
  have F2 := And.intro h2_ (And.intro h2__ h2q)
  refine AW.condF (by decide) (by first | (simp [F2]; done) | (simp [F2]; omega)) ?_
  refine AW.skip ?_
  refine hK37 _ _ _ ?_
  refine AW.seq fun K45 hK45 => ?_
  refine AW.block ?_
  refine AW.seqR mixed [] [none, none, none, none] (by kernel_rfl) fun G46 R46 hG46 hR46 => ?_
  try simp [F2]
  repeat' apply And.intro
  try any_goals (first | omega | (unfold maxLen; omega) | (simp [F2]; done))
  obtain ⟨v16, h3, hF⟩ := bnd1_elim hF
  refine aCall_l (w_roster_Valid k _ _ h3) (by simp) [] [] [] rfl (.cons (.same (by simp [F2])) .nil) (by simp [F2]) (by decide) (by simp) (by simp) (.inl rfl) (by simp) (by simp) ?_
  try simp [F2]
  repeat' apply And.intro
  any_goals (first | exact hG46 _ (by kernel_rfl) | refine hR46 _ _ _ ?_ | omega | (unfold maxLen; omega) | (simp [F2]; done) | (simp [F2]; omega))
  refine AW.wk [(1, AV.str v7), (2, AV.lst false false (List.map (AV.int .i64) v8)), (4, AV.ptr 0 0), (7, AV.ptr 1 0), (19, AV.bool (!v16))] [(0, .cells [AV.lst false false (List.map (AV.int .i64) v0), AV.lst false false (List.map (AV.int .i64) v1), AV.lst false false (List.map (AV.int .i64) v2), AV.int .i64 v3, AV.int .i64 v4, AV.int .i64 v5, AV.int .i64 v6]), (1, .cells [AV.int .i64 v9, AV.int .i64 v10, AV.int .i64 v11, AV.int .i64 v12])] 2 (by simp [F2]) (by simp [F2]) (by simp) ?_
  by_cases h4 : (!v16) = true
  ·replace hF := ite_t h4 hF
   have h4_ := h4
   try simp at h4_
   have F3 := And.intro F2 (And.intro h4 h4_)
   refine AW.condT (by decide) (by first | (simp [F3]; done) | (simp [F3]; omega)) ?_
   refine AW.seqR mixed [] [none, none] (by kernel_rfl) fun G47 R47 hG47 hR47 => ?_
   try simp [F3]
   repeat' apply And.intro
   any_goals (first | exact hG47 _ (by kernel_rfl) | refine hR47 _ _ _ ?_ | omega | (unfold maxLen; omega) | (simp [F3]; done) | (simp [F3]; omega))
   refine AW.wk [(8, AV.lst true true (List.map (AV.int .i64) ([] : List Int))), (9, AV.int .i64 43)] [] 2 (by simp [F3]) (by simp [F3]) (by simp) ?_
   refine AW.own' 8 1 true (by simp [F3]) (by decide) ?_
   refine AW.rnm (m := 0) h0 [(0, 2)] [(8, AV.slc 0 0 1 (([] : List Int).length) false), (9, AV.int .i64 43)] [(0, .grow (List.map (AV.int .i64) ([] : List Int)))] 1 (by decide) (by decide) (by decide) rfl (by simp [F3]) (by simp [F3]) ?_
   simp only [Option.some.injEq, Prod.mk.injEq] at hF
   obtain ⟨e0, e1⟩ := hF
   subst e0 e1
   refine AW.ret (hQ _ _ _ ?_ (matchO_0 ?_)).1
   ·simp [Try.f52, F3]
   ·simp [F3]
  ·replace hF := ite_f h4 hF
   have h4_ := h4
   try simp at h4_
   have F4 := And.intro F2 (And.intro h4 h4_)
   refine AW.condF (by decide) (by first | (simp [F4]; done) | (simp [F4]; omega)) ?_
   refine AW.seqR mixed [] [none, none, none, none] (by kernel_rfl) fun G48 R48 hG48 hR48 => ?_
   try simp [F4]
   repeat' apply And.intro
   try any_goals (first | omega | (unfold maxLen; omega) | (simp [F4]; done))
   obtain ⟨v17, h5, hF⟩ := bnd1_elim hF
   refine aCall_l (w_cases_Valid k _ _ _ _ _ h5) (by simp) [] [] [] rfl (.cons (.same (by simp [F4])) .nil) (by simp [F4]) (by decide) (by simp) (by simp) (.inl rfl) (by simp) (by simp) ?_
   try simp [F4]
   repeat' apply And.intro
   any_goals (first | exact hG48 _ (by kernel_rfl) | refine hR48 _ _ _ ?_ | omega | (unfold maxLen; omega) | (simp [F4]; done) | (simp [F4]; omega))
   refine AW.wk [(1, AV.str v7), (2, AV.lst false false (List.map (AV.int .i64) v8)), (4, AV.ptr 0 0), (7, AV.ptr 1 0), (23, AV.bool (!v17))] [(0, .cells [AV.lst false false (List.map (AV.int .i64) v0), AV.lst false false (List.map (AV.int .i64) v1), AV.lst false false (List.map (AV.int .i64) v2), AV.int .i64 v3, AV.int .i64 v4, AV.int .i64 v5, AV.int .i64 v6]), (1, .cells [AV.int .i64 v9, AV.int .i64 v10, AV.int .i64 v11, AV.int .i64 v12])] 2 (by simp [F4]) (by simp [F4]) (by simp) ?_
   by_cases h6 : (!v17) = true
   ·replace hF := ite_t h6 hF
    have h6_ := h6
    try simp at h6_
    have F5 := And.intro F4 (And.intro h6 h6_)
    refine AW.condT (by decide) (by first | (simp [F5]; done) | (simp [F5]; omega)) ?_
    refine AW.seqR mixed [] [none, none] (by kernel_rfl) fun G49 R49 hG49 hR49 => ?_
    try simp [F5]
    repeat' apply And.intro
    any_goals (first | exact hG49 _ (by kernel_rfl) | refine hR49 _ _ _ ?_ | omega | (unfold maxLen; omega) | (simp [F5]; done) | (simp [F5]; omega))
    refine AW.wk [(8, AV.lst true true (List.map (AV.int .i64) ([] : List Int))), (9, AV.int .i64 41)] [] 2 (by simp [F5]) (by simp [F5]) (by simp) ?_
    refine AW.own' 8 1 true (by simp [F5]) (by decide) ?_
    refine AW.rnm (m := 0) h0 [(0, 2)] [(8, AV.slc 0 0 1 (([] : List Int).length) false), (9, AV.int .i64 41)] [(0, .grow (List.map (AV.int .i64) ([] : List Int)))] 1 (by decide) (by decide) (by decide) rfl (by simp [F5]) (by simp [F5]) ?_
    simp only [Option.some.injEq, Prod.mk.injEq] at hF
    obtain ⟨e0, e1⟩ := hF
    subst e0 e1
    refine AW.ret (hQ _ _ _ ?_ (matchO_0 ?_)).1
    ·simp [Try.f52, F5]
    ·simp [F5]
   ·replace hF := ite_f h6 hF
    have h6_ := h6
    try simp at h6_
    have F6 := And.intro F4 (And.intro h6 h6_)
    refine AW.condF (by decide) (by first | (simp [F6]; done) | (simp [F6]; omega)) ?_
    refine AW.skip ?_
    refine hK45 _ _ _ ?_
    refine AW.seqR mixed [] [none, none, none, none, none, none, none, none, none, none] (by kernel_rfl) fun G50 R50 hG50 hR50 => ?_
    try simp [F6]
    repeat' apply And.intro
    try any_goals (first | omega | (unfold maxLen; omega) | (simp [F6]; done))
    obtain ⟨v18, v19, h7, hF⟩ := bnd2_elim hF
    refine aCall_l (w_committee_draw k _ _ _ _ _ _ _ _ _ _ _ _ _ _ _ _ h7) (by simp) [] [] [] rfl (.cons (.same (by simp [F6])) (.cons (.same (by simp [F6])) (.cons (.same (by simp [F6])) (.cons (.same (by simp [F6])) (.cons (.same (by simp [F6])) .nil))))) (by simp [F6]) (by decide) (by simp) (by simp) (.inl rfl) (by simp) (by simp) ?_
    try simp [F6]
    repeat' apply And.intro
    any_goals (first | exact hG50 _ (by kernel_rfl) | refine hR50 _ _ _ ?_ | omega | (unfold maxLen; omega) | (simp [F6]; done) | (simp [F6]; omega))
    refine AW.wk [(1, AV.str v7), (2, AV.lst false false (List.map (AV.int .i64) v8)), (4, AV.ptr 0 0), (7, AV.ptr 1 0), (11, AV.slc 2 0 1 v18.length false), (12, AV.int .i64 v19)] [(0, .cells [AV.lst false false (List.map (AV.int .i64) v0), AV.lst false false (List.map (AV.int .i64) v1), AV.lst false false (List.map (AV.int .i64) v2), AV.int .i64 v3, AV.int .i64 v4, AV.int .i64 v5, AV.int .i64 v6]), (1, .cells [AV.int .i64 v9, AV.int .i64 v10, AV.int .i64 v11, AV.int .i64 v12]), (2, .grow (List.map (AV.int .i64) v18))] 3 (by simp [F6]) (by simp [F6]) (by simp) ?_
    refine AW.seq fun K54 hK54 => ?_
    refine AW.seqR mixed [] [none, none, none, some (37, false), some (37, false), some (37, false), none] (by kernel_rfl) fun G55 R55 hG55 hR55 => ?_
    by_cases h8 : v19 ≠ 0
    ·replace hF := ite_t h8 hF
     have h8_ := eqb_f h8
     have h8__ := neb_t h8
     have F7 := And.intro F6 (And.intro h8 (And.intro h8_ h8__))
     try simp [F7]
     repeat' apply And.intro
     any_goals (first | exact hG55 _ (by kernel_rfl) | refine hR55 _ _ _ ?_ | omega | (unfold maxLen; omega) | (simp [F7]; done) | (simp [F7]; omega))
     refine AW.wk [(1, AV.str v7), (2, AV.lst false false (List.map (AV.int .i64) v8)), (4, AV.ptr 0 0), (7, AV.ptr 1 0), (11, AV.slc 2 0 1 v18.length false), (12, AV.int .i64 v19), (41, AV.bool true)] [(0, .cells [AV.lst false false (List.map (AV.int .i64) v0), AV.lst false false (List.map (AV.int .i64) v1), AV.lst false false (List.map (AV.int .i64) v2), AV.int .i64 v3, AV.int .i64 v4, AV.int .i64 v5, AV.int .i64 v6]), (1, .cells [AV.int .i64 v9, AV.int .i64 v10, AV.int .i64 v11, AV.int .i64 v12]), (2, .grow (List.map (AV.int .i64) v18))] 3 (by simp [F7]) (by simp [F7]) (by simp) ?_
     refine AW.condT (by decide) (by simp [F7]) ?_
     refine AW.seqR mixed [] [none, none, none, none] (by kernel_rfl) fun G56 R56 hG56 hR56 => ?_
     try simp [F7]
     repeat' apply And.intro
     any_goals (first | exact hG56 _ (by kernel_rfl) | refine hR56 _ _ _ ?_ | omega | (unfold maxLen; omega) | (simp [F7]; done) | (simp [F7]; omega))
     refine AW.wk [(8, AV.slc 2 0 1 v18.length false), (9, AV.int .i64 v19)] [(2, .grow (List.map (AV.int .i64) v18))] 3 (by simp [F7]) (by simp [F7]) (by simp) ?_
     refine AW.rnm (m := 0) h0 [(0, 2)] [(8, AV.slc 0 0 1 v18.length false), (9, AV.int .i64 v19)] [(0, .grow (List.map (AV.int .i64) v18))] 1 (by decide) (by decide) (by decide) rfl (by simp [F7]) (by simp [F7]) ?_
     simp only [Option.some.injEq, Prod.mk.injEq] at hF
     obtain ⟨e0, e1⟩ := hF
     subst e0 e1
     refine AW.ret (hQ _ _ _ ?_ (matchO_0 ?_)).1
     ·simp [Try.f52, F7]
     ·simp [F7]
    ·replace hF := ite_f h8 hF
     have h8q : v19 = 0 := Classical.not_not.1 h8
     have h8_ := eqb_t h8q
     have h8__ := neb_f h8q
     have F8 := And.intro F6 (And.intro h8_ (And.intro h8__ h8q))
     try simp [F8]
     repeat' apply And.intro
     any_goals (first | exact hG55 _ (by kernel_rfl) | refine hR55 _ _ _ ?_ | omega | (unfold maxLen; omega) | (simp [F8]; done) | (simp [F8]; omega))
     refine AW.wk [(1, AV.str v7), (2, AV.lst false false (List.map (AV.int .i64) v8)), (4, AV.ptr 0 0), (7, AV.ptr 1 0), (11, AV.slc 2 0 1 v18.length false), (12, AV.int .i64 v19), (41, AV.bool (v12 == 0))] [(0, .cells [AV.lst false false (List.map (AV.int .i64) v0), AV.lst false false (List.map (AV.int .i64) v1), AV.lst false false (List.map (AV.int .i64) v2), AV.int .i64 v3, AV.int .i64 v4, AV.int .i64 v5, AV.int .i64 v6]), (1, .cells [AV.int .i64 v9, AV.int .i64 v10, AV.int .i64 v11, AV.int .i64 v12]), (2, .grow (List.map (AV.int .i64) v18))] 3 (by simp [F8]) (by simp [F8]) (by simp) ?_
     by_cases h9 : v12 = 0
     ·replace hF := ite_t h9 hF
      have h9q : v12 = 0 := h9
      have h9_ := eqb_t h9q
      have h9__ := neb_f h9q
      have F9 := And.intro F8 (And.intro h9_ (And.intro h9__ h9q))
      refine AW.condT (by decide) (by first | (simp [F9]; done) | (simp [F9]; omega)) ?_
      refine AW.seqR mixed [] [none, none, none, none] (by kernel_rfl) fun G57 R57 hG57 hR57 => ?_
      try simp [F9]
      repeat' apply And.intro
      any_goals (first | exact hG57 _ (by kernel_rfl) | refine hR57 _ _ _ ?_ | omega | (unfold maxLen; omega) | (simp [F9]; done) | (simp [F9]; omega))
      refine AW.wk [(8, AV.slc 2 0 1 v18.length false), (9, AV.int .i64 v19)] [(2, .grow (List.map (AV.int .i64) v18))] 3 (by simp [F9]) (by simp [F9]) (by simp) ?_
      refine AW.rnm (m := 0) h0 [(0, 2)] [(8, AV.slc 0 0 1 v18.length false), (9, AV.int .i64 v19)] [(0, .grow (List.map (AV.int .i64) v18))] 1 (by decide) (by decide) (by decide) rfl (by simp [F9]) (by simp [F9]) ?_
      simp only [Option.some.injEq, Prod.mk.injEq] at hF
      obtain ⟨e0, e1⟩ := hF
      subst e0 e1
      refine AW.ret (hQ _ _ _ ?_ (matchO_0 ?_)).1
      ·simp [Try.f52, F9]
      ·simp [F9]
     ·replace hF := ite_f h9 hF
      have h9_ := eqb_f h9
      have h9__ := neb_t h9
      have F10 := And.intro F8 (And.intro h9 (And.intro h9_ h9__))
      refine AW.condF (by decide) (by first | (simp [F10]; done) | (simp [F10]; omega)) ?_
      refine AW.skip ?_
      refine hK54 _ _ _ ?_
      refine AW.wk [(1, AV.str v7), (2, AV.lst false false (List.map (AV.int .i64) v8)), (4, AV.ptr 0 0), (7, AV.ptr 1 0), (11, AV.slc 2 0 1 v18.length false)] [(0, .cells [AV.lst false false (List.map (AV.int .i64) v0), AV.lst false false (List.map (AV.int .i64) v1), AV.lst false false (List.map (AV.int .i64) v2), AV.int .i64 v3, AV.int .i64 v4, AV.int .i64 v5, AV.int .i64 v6]), (1, .cells [AV.int .i64 v9, AV.int .i64 v10, AV.int .i64 v11, AV.int .i64 v12]), (2, .grow (List.map (AV.int .i64) v18))] 3 (by simp [F10]) (by simp [F10]) (by simp) ?_
      refine AW.frz 2 (o := .grow (List.map (AV.int .i64) v18)) (by simp [F10]) rfl [(11, AV.lst false false (List.map (AV.int .i64) v18))] [] ⟨(.l (by simp) (by simp) (by simp) (by simp)), trivial⟩ trivial ?_
      refine AW.wk [(1, AV.str v7), (2, AV.lst false false (List.map (AV.int .i64) v8)), (4, AV.ptr 0 0), (7, AV.ptr 1 0), (11, AV.lst false false (List.map (AV.int .i64) v18))] [(0, .cells [AV.lst false false (List.map (AV.int .i64) v0), AV.lst false false (List.map (AV.int .i64) v1), AV.lst false false (List.map (AV.int .i64) v2), AV.int .i64 v3, AV.int .i64 v4, AV.int .i64 v5, AV.int .i64 v6]), (1, .cells [AV.int .i64 v9, AV.int .i64 v10, AV.int .i64 v11, AV.int .i64 v12])] 3 (by simp [F10]) (by simp [F10]) (by simp) ?_
      refine AW.seqR mixed [] [none, none, none, none] (by kernel_rfl) fun G58 R58 hG58 hR58 => ?_
      try simp [F10]
      repeat' apply And.intro
      try any_goals (first | omega | (unfold maxLen; omega) | (simp [F10]; done))
      obtain ⟨v20, h10, hF⟩ := bnd1_elim hF
      refine aCall_l (w_roster_Minus k _ _ _ h10) (by simp) [] [] [] rfl (.cons (.same (by simp [F10])) (.cons (.same (by simp [F10])) .nil)) (by simp [F10]) (by decide) (by simp) (by simp) (.inl rfl) (by simp) (by simp) ?_
      try simp [F10]
      repeat' apply And.intro
      any_goals (first | exact hG58 _ (by kernel_rfl) | refine hR58 _ _ _ ?_ | omega | (unfold maxLen; omega) | (simp [F10]; done) | (simp [F10]; omega))
      refine AW.wk [(1, AV.str v7), (4, AV.ptr 0 0), (7, AV.ptr 1 0), (13, AV.slc 3 0 1 v20.length false)] [(0, .cells [AV.lst false false (List.map (AV.int .i64) v0), AV.lst false false (List.map (AV.int .i64) v1), AV.lst false false (List.map (AV.int .i64) v2), AV.int .i64 v3, AV.int .i64 v4, AV.int .i64 v5, AV.int .i64 v6]), (1, .cells [AV.int .i64 v9, AV.int .i64 v10, AV.int .i64 v11, AV.int .i64 v12]), (3, .grow (List.map (AV.int .i64) v20))] 4 (by simp [F10]) (by simp [F10]) (by simp) ?_
      refine AW.frz 3 (o := .grow (List.map (AV.int .i64) v20)) (by simp [F10]) rfl [(13, AV.lst false false (List.map (AV.int .i64) v20))] [] ⟨(.l (by simp) (by simp) (by simp) (by simp)), trivial⟩ trivial ?_
      refine AW.wk [(1, AV.str v7), (4, AV.ptr 0 0), (7, AV.ptr 1 0), (13, AV.lst false false (List.map (AV.int .i64) v20))] [(0, .cells [AV.lst false false (List.map (AV.int .i64) v0), AV.lst false false (List.map (AV.int .i64) v1), AV.lst false false (List.map (AV.int .i64) v2), AV.int .i64 v3, AV.int .i64 v4, AV.int .i64 v5, AV.int .i64 v6]), (1, .cells [AV.int .i64 v9, AV.int .i64 v10, AV.int .i64 v11, AV.int .i64 v12])] 4 (by simp [F10]) (by simp [F10]) (by simp) ?_
      refine AW.seq fun K61 hK61 => ?_
      refine AW.seqR mixed [] [none, none, none] (by kernel_rfl) fun G62 R62 hG62 hR62 => ?_
      try simp [F10]
      repeat' apply And.intro
      any_goals (first | exact hG62 _ (by kernel_rfl) | refine hR62 _ _ _ ?_ | omega | (unfold maxLen; omega) | (simp [F10]; done) | (simp [F10]; omega))
      refine AW.wk [(1, AV.str v7), (4, AV.ptr 0 0), (7, AV.ptr 1 0), (13, AV.lst false false (List.map (AV.int .i64) v20)), (49, AV.bool ((v20.length : Int) == 0))] [(0, .cells [AV.lst false false (List.map (AV.int .i64) v0), AV.lst false false (List.map (AV.int .i64) v1), AV.lst false false (List.map (AV.int .i64) v2), AV.int .i64 v3, AV.int .i64 v4, AV.int .i64 v5, AV.int .i64 v6]), (1, .cells [AV.int .i64 v9, AV.int .i64 v10, AV.int .i64 v11, AV.int .i64 v12])] 4 (by simp [F10]) (by simp [F10]) (by simp) ?_
      by_cases h11 : (v20.length : Int) = 0
      ·replace hF := ite_t h11 hF
       have h11q : (v20.length : Int) = 0 := h11
       have h11_ := eqb_t h11q
       have h11__ := neb_f h11q
       have F11 := And.intro F10 (And.intro h11_ (And.intro h11__ h11q))
       refine AW.condT (by decide) (by first | (simp [F11]; done) | (simp [F11]; omega)) ?_
       refine AW.seqR mixed [] [none, none] (by kernel_rfl) fun G63 R63 hG63 hR63 => ?_
       try simp [F11]
       repeat' apply And.intro
       any_goals (first | exact hG63 _ (by kernel_rfl) | refine hR63 _ _ _ ?_ | omega | (unfold maxLen; omega) | (simp [F11]; done) | (simp [F11]; omega))
       refine AW.wk [(8, AV.lst true true (List.map (AV.int .i64) ([] : List Int))), (9, AV.int .i64 44)] [] 4 (by simp [F11]) (by simp [F11]) (by simp) ?_
       refine AW.own' 8 1 true (by simp [F11]) (by decide) ?_
       refine AW.rnm (m := 0) h0 [(0, 4)] [(8, AV.slc 0 0 1 (([] : List Int).length) false), (9, AV.int .i64 44)] [(0, .grow (List.map (AV.int .i64) ([] : List Int)))] 1 (by decide) (by decide) (by decide) rfl (by simp [F11]) (by simp [F11]) ?_
       simp only [Option.some.injEq, Prod.mk.injEq] at hF
       obtain ⟨e0, e1⟩ := hF
       subst e0 e1
       refine AW.ret (hQ _ _ _ ?_ (matchO_0 ?_)).1
       ·simp [Try.f52, F11]
       ·simp [F11]
      ·replace hF := ite_f h11 hF
       have h11_ := eqb_f h11
       have h11__ := neb_t h11
       have F12 := And.intro F10 (And.intro h11 (And.intro h11_ h11__))
       refine AW.condF (by decide) (by first | (simp [F12]; done) | (simp [F12]; omega)) ?_
       refine AW.skip ?_
       refine hK61 _ _ _ ?_
       refine AW.seqR mixed [] [none, none, none, none, none, none, none, none, none] (by kernel_rfl) fun G64 R64 hG64 hR64 => ?_
       try simp [F12]
       repeat' apply And.intro
       try any_goals (first | omega | (unfold maxLen; omega) | (simp [F12]; done))
       obtain ⟨v21, v22, h12, hF⟩ := bnd2_elim hF
       refine aCall_l (w_committee_draw k _ _ _ _ _ _ _ _ _ _ _ _ _ _ _ _ h12) (by simp) [] [] [] rfl (.cons (.same (by simp [F12])) (.cons (.same (by simp [F12])) (.cons (.same (by simp [F12])) (.cons (.same (by simp [F12])) (.cons (.same (by simp [F12])) .nil))))) (by simp [F12]) (by decide) (by simp) (by simp) (.inl rfl) (by simp) (by simp) ?_
       try simp [F12]
       repeat' apply And.intro
       any_goals (first | exact hG64 _ (by kernel_rfl) | refine hR64 _ _ _ ?_ | omega | (unfold maxLen; omega) | (simp [F12]; done) | (simp [F12]; omega))
       refine AW.wk [(8, AV.slc 4 0 1 v21.length false), (9, AV.int .i64 v22)] [(4, .grow (List.map (AV.int .i64) v21))] 5 (by simp [F12]) (by simp [F12]) (by simp) ?_
       refine AW.rnm (m := 0) h0 [(0, 4)] [(8, AV.slc 0 0 1 v21.length false), (9, AV.int .i64 v22)] [(0, .grow (List.map (AV.int .i64) v21))] 1 (by decide) (by decide) (by decide) rfl (by simp [F12]) (by simp [F12]) ?_
       simp only [Option.some.injEq, Prod.mk.injEq] at hF
       obtain ⟨e0, e1⟩ := hF
       subst e0 e1
       refine AW.ret (hQ _ _ _ ?_ (matchO_0 ?_)).1
       ·simp [Try.f52, F12]
       ·simp [F12]
set_option maxHeartbeats 4000000 in
theorem w_ref24_Has (k : Nat) (v0 : (List Int)) (v1 : Int) (v2 : Bool) (hF : ref24_Has k v0 v1 = some v2) :
  FCall Try.prog 54 [AV.lst false false (List.map (AV.int .i64) v0), AV.int .i64 v1] [] (AV.bool v2) [] := by
 unfold ref24_Has at hF
 refine FCall.enter Try.func54 rfl (by simp) (by decide) (by simp) (by simp) (by simp) (by simp) (by simp) ?_
 intro c0 w0 Q h0 hQ
 refine AW.wk [(0, AV.lst false false (List.map (AV.int .i64) v0)), (1, AV.int .i64 v1)] [] 0 (by simp) (by simp) (by simp) ?_
 refine AW.seqR mixed [] [none] (by kernel_rfl) fun G80 R80 hG80 hR80 => ?_
 try simp
 repeat' apply And.intro
 any_goals (first | exact hG80 _ (by kernel_rfl) | refine hR80 _ _ _ ?_ | omega | (unfold maxLen; omega) | (simp; done) | (simp; omega))
 refine AW.wk [(0, AV.lst false false (List.map (AV.int .i64) v0)), (1, AV.int .i64 v1)] [] 0 (by simp) (by simp) (by simp) ?_
 refine AW.seq fun K119 hK119 => ?_
 refine AW.seqR mixed [] [none] (by kernel_rfl) fun G120 R120 hG120 hR120 => ?_
 try simp
 repeat' apply And.intro
 any_goals (first | exact hG120 _ (by kernel_rfl) | refine hR120 _ _ _ ?_ | omega | (unfold maxLen; omega) | (simp; done) | (simp; omega))
 refine AW.wk [(0, AV.lst false false (List.map (AV.int .i64) v0)), (1, AV.int .i64 v1), (5, AV.int .i64 0)] [] 0 (by simp) (by simp) (by simp) ?_
 refine AW.block ?_
 refine AW.loopF (α := Int) (fun n v3 => ref24_Has.L1 k v0 v1 n v3 = some v2) (fun v3 => [(0, AV.lst false false (List.map (AV.int .i64) v0)), (1, AV.int .i64 v1), (5, AV.int .i64 v3)]) (fun v3 => []) 0 k (0) hF (by simp) (by simp) (by simp) ?_
 rintro (_|n1) v3 hF K148 hK148
 ·try dsimp only at hF
  rw [ref24_Has.L1] at hF; cases hF
 try dsimp only at hF
 rw [ref24_Has.L1] at hF
 refine AW.seq fun K150 hK150 => ?_
 refine AW.seqR mixed [] [none, none, none, none] (by kernel_rfl) fun G151 R151 hG151 hR151 => ?_
 try simp
 repeat' apply And.intro
 any_goals (first | exact hG151 _ (by kernel_rfl) | refine hR151 _ _ _ ?_ | omega | (unfold maxLen; omega) | (simp; done) | (simp; omega))
 refine AW.wk [(0, AV.lst false false (List.map (AV.int .i64) v0)), (1, AV.int .i64 v1), (5, AV.int .i64 v3), (9, AV.bool (decide (v3 < (v0.length : Int))))] [] 0 (by simp) (by simp) (by simp) ?_
 by_cases h1 : v3 < (v0.length : Int)
 ·replace hF := ite_t h1 hF
  have h1_ := h1
  try simp at h1_
  refine AW.condT (by decide) (by first | (simp [h1, h1_]; done) | (simp [h1, h1_]; omega)) ?_
  refine AW.skip ?_
  refine hK150 _ _ _ ?_
  refine AW.seq fun K154 hK154 => ?_
  refine AW.block ?_
  refine AW.seqR mixed [] [none, none, none, none, none, none] (by kernel_rfl) fun G155 R155 hG155 hR155 => ?_
  obtain ⟨v4, h2, h3, h4, hF⟩ := idx_elim hF
  have h4_ := get_of h4
  try simp at h4_
  have h3_ := h3
  try simp at h3_
  have F1 := And.intro h1 (And.intro h1_ (And.intro h2 (And.intro h3 (And.intro h4 (And.intro h4_ h3_)))))
  try simp [F1]
  repeat' apply And.intro
  any_goals (first | exact hG155 _ (by kernel_rfl) | refine hR155 _ _ _ ?_ | omega | (unfold maxLen; omega) | (simp [F1]; done) | (simp [F1]; omega))
  refine AW.wk [(0, AV.lst false false (List.map (AV.int .i64) v0)), (1, AV.int .i64 v1), (5, AV.int .i64 v3), (17, AV.bool (v4 == v1))] [] 0 (by simp [F1]) (by simp [F1]) (by simp) ?_
  by_cases h5 : v4 = v1
  ·replace hF := ite_t h5 hF
   have h5q : v4 = v1 := h5
   have h5_ := eqb_t h5q
   have h5__ := neb_f h5q
   have F2 := And.intro F1 (And.intro h5_ h5__)
   refine AW.condT (by decide) (by first | (simp [F2]; done) | (simp [F2]; omega)) ?_
   refine AW.seqR mixed [] [none] (by kernel_rfl) fun G156 R156 hG156 hR156 => ?_
   try simp [F2]
   repeat' apply And.intro
   any_goals (first | exact hG156 _ (by kernel_rfl) | refine hR156 _ _ _ ?_ | omega | (unfold maxLen; omega) | (simp [F2]; done) | (simp [F2]; omega))
   refine AW.wk [(4, AV.bool true)] [] 0 (by simp [F2]) (by simp [F2]) (by simp) ?_
   simp only [Option.some.injEq] at hF
   subst hF
   refine AW.ret (hQ _ _ _ ?_ (matchO_0 ?_)).1
   ·simp [Try.f54, F2]
   ·simp [F2]
  ·replace hF := ite_f h5 hF
   have h5_ := eqb_f h5
   have h5__ := neb_t h5
   have F3 := And.intro F1 (And.intro h5 (And.intro h5_ h5__))
   refine AW.condF (by decide) (by first | (simp [F3]; done) | (simp [F3]; omega)) ?_
   refine AW.skip ?_
   refine hK154 _ _ _ ?_
   refine AW.region mixed [] [none, none, none] (by kernel_rfl) fun G157 R157 hG157 hR157 => ?_
   try simp [F3]
   repeat' apply And.intro
   any_goals (first | exact hG157 _ (by kernel_rfl) | refine hR157 _ _ _ ?_ | omega | (unfold maxLen; omega) | (simp [F3]; done) | (simp [F3]; omega))
   refine hK148 _ _ _ ?_
   refine Can.weak [(0, AV.lst false false (List.map (AV.int .i64) v0)), (1, AV.int .i64 v1), (5, AV.int .i64 (IntKind.wrap .i64 (v3 + 1)))] [] 0 (by simp [F3]) (by simp [F3]) (by simp) ?_
   exact Can.next (k' := n1) (IntKind.wrap .i64 (v3 + 1)) (by omega) hF (by simp [F3]) (by simp [F3]) (by simp)
 ·replace hF := ite_f h1 hF
  have h1_ := h1
  try simp at h1_
  refine AW.condF (by decide) (by first | (simp [h1, h1_]; done) | (simp [h1, h1_]; omega)) ?_
  refine AW.exit ?_
  try simp
  refine hK119 _ _ _ ?_
  refine AW.seqR mixed [] [none] (by kernel_rfl) fun G158 R158 hG158 hR158 => ?_
  try simp [h1, h1_]
  repeat' apply And.intro
  any_goals (first | exact hG158 _ (by kernel_rfl) | refine hR158 _ _ _ ?_ | omega | (unfold maxLen; omega) | (simp [h1, h1_]; done) | (simp [h1, h1_]; omega))
  refine AW.wk [(4, AV.bool false)] [] 0 (by simp [h1, h1_]) (by simp [h1, h1_]) (by simp) ?_
  simp only [Option.some.injEq] at hF
  subst hF
  refine AW.ret (hQ _ _ _ ?_ (matchO_0 ?_)).1
  ·simp [Try.f54, h1, h1_]
  ·simp [h1, h1_]
set_option maxHeartbeats 4000000 in
theorem w_committee_Enough (k : Nat) (v0 : Int) (v1 : Int) (v2 : Bool) (hF : committee_Enough k v0 v1 = some v2) :
  FCall Try.prog 56 [AV.int .i64 v0, AV.int .i64 v1] [] (AV.bool v2) [] := by
 unfold committee_Enough at hF
 refine FCall.enter Try.func56 rfl (by simp) (by decide) (by simp) (by simp) (by simp) (by simp) (by simp) ?_
 intro c0 w0 Q h0 hQ
 refine AW.wk [(0, AV.int .i64 v0), (1, AV.int .i64 v1)] [] 0 (by simp) (by simp) (by simp) ?_
 refine AW.seqR mixed [] [none] (by kernel_rfl) fun G3 R3 hG3 hR3 => ?_
 try simp
 repeat' apply And.intro
 any_goals (first | exact hG3 _ (by kernel_rfl) | refine hR3 _ _ _ ?_ | omega | (unfold maxLen; omega) | (simp; done) | (simp; omega))
 refine AW.wk [(0, AV.int .i64 v0), (1, AV.int .i64 v1)] [] 0 (by simp) (by simp) (by simp) ?_
 refine AW.seqR mixed [] [none, none, none, some (7, true), some (7, true), none, none, some (11, true), some (11, true), none, none, some (15, true), some (15, true), some (15, true), none, none, some (20, true), some (20, true), some (20, true), some (20, true), some (20, true), none, none] (by kernel_rfl) fun G4 R4 hG4 hR4 => ?_
 by_cases h1 : 1 ≤ v1
 ·replace hF := ite_t h1 hF
  have h1_ := h1
  try simp at h1_
  by_cases h2 : v1 ≤ 9
  ·replace hF := ite_t h2 hF
   have h2_ := h2
   try simp at h2_
   by_cases h3 : 0 ≤ v0
   ·replace hF := ite_t h3 hF
    have h3_ := h3
    try simp at h3_
    by_cases h4 : v0 ≤ v1
    ·replace hF := ite_t h4 hF
     have h4_ := h4
     try simp at h4_
     have F1 := And.intro h1 (And.intro h1_ (And.intro h2 (And.intro h2_ (And.intro h3 (And.intro h3_ (And.intro h4 h4_))))))
     try simp [F1]
     repeat' apply And.intro
     any_goals (first | exact hG4 _ (by kernel_rfl) | refine hR4 _ _ _ ?_ | omega | (unfold maxLen; omega) | (simp [F1]; done) | (simp [F1]; omega))
     refine AW.wk [(4, AV.bool (decide (IntKind.wrap .i64 (3 * v1) < IntKind.wrap .i64 (4 * v0))))] [] 0 (by simp [F1]) (by simp [F1]) (by simp) ?_
     simp only [Option.some.injEq] at hF
     subst hF
     refine AW.ret (hQ _ _ _ ?_ (matchO_0 ?_)).1
     ·simp [Try.f56, F1]
     ·simp [F1]
    ·replace hF := ite_f h4 hF
     have h4_ := h4
     try simp at h4_
     have F2 := And.intro h1 (And.intro h1_ (And.intro h2 (And.intro h2_ (And.intro h3 (And.intro h3_ (And.intro h4 h4_))))))
     try simp [F2]
     repeat' apply And.intro
     any_goals (first | exact hG4 _ (by kernel_rfl) | refine hR4 _ _ _ ?_ | omega | (unfold maxLen; omega) | (simp [F2]; done) | (simp [F2]; omega))
     refine AW.wk [(4, AV.bool false)] [] 0 (by simp [F2]) (by simp [F2]) (by simp) ?_
     simp only [Option.some.injEq] at hF
     subst hF
     refine AW.ret (hQ _ _ _ ?_ (matchO_0 ?_)).1
     ·simp [Try.f56, F2]
     ·simp [F2]
   ·replace hF := ite_f h3 hF
    have h3_ := h3
    try simp at h3_
    have F3 := And.intro h1 (And.intro h1_ (And.intro h2 (And.intro h2_ (And.intro h3 h3_))))
    try simp [F3]
    repeat' apply And.intro
    any_goals (first | exact hG4 _ (by kernel_rfl) | refine hR4 _ _ _ ?_ | omega | (unfold maxLen; omega) | (simp [F3]; done) | (simp [F3]; omega))
    refine AW.wk [(4, AV.bool false)] [] 0 (by simp [F3]) (by simp [F3]) (by simp) ?_
    simp only [Option.some.injEq] at hF
    subst hF
    refine AW.ret (hQ _ _ _ ?_ (matchO_0 ?_)).1
    ·simp [Try.f56, F3]
    ·simp [F3]
  ·replace hF := ite_f h2 hF
   have h2_ := h2
   try simp at h2_
   have F4 := And.intro h1 (And.intro h1_ (And.intro h2 h2_))
   try simp [F4]
   repeat' apply And.intro
   any_goals (first | exact hG4 _ (by kernel_rfl) | refine hR4 _ _ _ ?_ | omega | (unfold maxLen; omega) | (simp [F4]; done) | (simp [F4]; omega))
   refine AW.wk [(4, AV.bool false)] [] 0 (by simp [F4]) (by simp [F4]) (by simp) ?_
   simp only [Option.some.injEq] at hF
   subst hF
   refine AW.ret (hQ _ _ _ ?_ (matchO_0 ?_)).1
   ·simp [Try.f56, F4]
   ·simp [F4]
 ·replace hF := ite_f h1 hF
  have h1_ := h1
  try simp at h1_
  try simp [h1, h1_]
  repeat' apply And.intro
  any_goals (first | exact hG4 _ (by kernel_rfl) | refine hR4 _ _ _ ?_ | omega | (unfold maxLen; omega) | (simp [h1, h1_]; done) | (simp [h1, h1_]; omega))
  refine AW.wk [(4, AV.bool false)] [] 0 (by simp [h1, h1_]) (by simp [h1, h1_]) (by simp) ?_
  simp only [Option.some.injEq] at hF
  subst hF
  refine AW.ret (hQ _ _ _ ?_ (matchO_0 ?_)).1
  ·simp [Try.f56, h1, h1_]
  ·simp [h1, h1_]
end Go.TF
