/- Walks: the Go text computes the Lean functions (printed by a program of our own). -/
import Derived.Test.YtepdfenlkeaefaaEPu
import Derived.Test.YtepdfenlkeaefaaEAbsT
import Derived.Test.YtepdfenlkeaefaaEWa0
import Derived.Test.YtepdfenlkeaefaaEWa4
import Derived.Test.YtepdfenlkeaefaaEWa5
set_option linter.unusedVariables false
set_option linter.unusedSimpArgs false
set_option maxRecDepth 100000
namespace Go.TF
open Go Go.Abs Go.Proofs Go.Proofs.YtepdfenlkeaefaaET
set_option maxHeartbeats 4000000 in
theorem w_ref01_Sum (k : Nat) (v0 : (List Int)) (v1 : ByteArray) (hF : ref01_Sum k v0 = some v1) :
    FCall Try.prog 15 [AV.lst false false (List.map (AV.int .u8) v0)] [] (AV.str v1) [] := by
  unfold ref01_Sum at hF
  refine FCall.enter Try.func15 rfl (by simp) (by decide) (by simp) (by simp) (by simp) (by simp) (by simp) ?_
  intro c0 w0 Q h0 hQ
  refine AW.wk [(0, AV.lst false false (List.map (AV.int .u8) v0))] [] 0 (by simp) (by simp) (by simp) ?_
  refine AW.seqR mixed [] [none] (by kernel_rfl) fun G226 R226 hG226 hR226 => ?_
  try simp
  repeat' apply And.intro
  any_goals (first | exact hG226 _ (by kernel_rfl) | refine hR226 _ _ _ ?_ | omega | (unfold maxLen; omega) | (simp; done) | (simp; omega))
  refine AW.wk [(0, AV.lst false false (List.map (AV.int .u8) v0))] [] 0 (by simp) (by simp) (by simp) ?_
  refine AW.seqR mixed [] [none, none] (by kernel_rfl) fun G227 R227 hG227 hR227 => ?_
  try simp
  repeat' apply And.intro
  any_goals (first | exact hG227 _ (by kernel_rfl) | refine hR227 _ _ _ ?_ | omega | (unfold maxLen; omega) | (simp; done) | (simp; omega))
  refine AW.wk [(0, AV.lst false false (List.map (AV.int .u8) v0)), (3, AV.lst false true (List.map (AV.int .u32) ([1779033703, 3144134277, 1013904242, 2773480762, 1359893119, 2600822924, 528734635, 1541459225] : List Int)))] [] 0 (by simp) (by simp) (by simp) ?_
  refine AW.seqR mixed [13] [none, none, none, none, none] (by kernel_rfl) fun G228 R228 hG228 hR228 => ?_
  obtain ⟨h1, hF⟩ := chk_elim hF
  have h1_ := h1
  try simp at h1_
  obtain ⟨h2, hF⟩ := chk_elim hF
  have h2_ := h2
  try simp at h2_
  try simp [h1, h2]
  repeat' apply And.intro
  any_goals (first | exact hG228 _ (by kernel_rfl) | refine hR228 _ _ _ ?_ | omega | (unfold maxLen; omega) | (simp [h1, h2]; done) | (simp [h1, h2]; omega))
  refine AW.wk [(0, AV.lst false false (List.map (AV.int .u8) v0)), (3, AV.lst false true (List.map (AV.int .u32) ([1779033703, 3144134277, 1013904242, 2773480762, 1359893119, 2600822924, 528734635, 1541459225] : List Int))), (4, AV.slc 1 0 1 ((v0 ++ ([128] : List Int)).length) false)] [(1, .grow (List.map (AV.int .u8) (v0 ++ ([128] : List Int))))] 2 (by simp [h1, h2] <;> omega) (by simp [h1, h2]) (by simp) ?_
  refine AW.seq fun K246 hK246 => ?_
  refine AW.block ?_
  refine AW.rnm (m := 0) h0 [(0, 1)] [(0, AV.lst false false (List.map (AV.int .u8) v0)), (3, AV.lst false true (List.map (AV.int .u32) ([1779033703, 3144134277, 1013904242, 2773480762, 1359893119, 2600822924, 528734635, 1541459225] : List Int))), (4, AV.slc 0 0 1 ((v0 ++ ([128] : List Int)).length) false)] [(0, .grow (List.map (AV.int .u8) (v0 ++ ([128] : List Int))))] 1 (by decide) (by decide) (by decide) rfl (by simp [h1, h2]) (by simp [h1, h2]) ?_
  refine AW.loopF (α := (List Int)) (fun n v2 => ref01_Sum.L1 k v0 n v2 = some v1) (fun v2 => [(0, AV.lst false false (List.map (AV.int .u8) v0)), (3, AV.lst false true (List.map (AV.int .u32) ([1779033703, 3144134277, 1013904242, 2773480762, 1359893119, 2600822924, 528734635, 1541459225] : List Int))), (4, AV.slc 0 0 1 v2.length false)]) (fun v2 => [(0, .grow (List.map (AV.int .u8) v2))]) 1 k (v0 ++ ([128] : List Int)) hF (by simp [h1, h2]) (by simp [h1, h2]) (by simp) ?_
  rintro (_|n1) v2 hF K259 hK259
  · try dsimp only at hF
    rw [ref01_Sum.L1] at hF; cases hF
  try dsimp only at hF
  rw [ref01_Sum.L1] at hF
  refine AW.seq fun K261 hK261 => ?_
  refine AW.seqR mixed [] [none, none, none, none] (by kernel_rfl) fun G262 R262 hG262 hR262 => ?_
  try simp [h1, h2]
  repeat' apply And.intro
  any_goals (first | exact hG262 _ (by kernel_rfl) | refine hR262 _ _ _ ?_ | omega | (unfold maxLen; omega) | (simp [h1, h2]; done) | (simp [h1, h2]; omega))
  refine AW.wk [(0, AV.lst false false (List.map (AV.int .u8) v0)), (3, AV.lst false true (List.map (AV.int .u32) ([1779033703, 3144134277, 1013904242, 2773480762, 1359893119, 2600822924, 528734635, 1541459225] : List Int))), (4, AV.slc 0 0 1 v2.length false), (19, AV.bool ((Int.tmod (v2.length : Int) 64) != 56))] [(0, .grow (List.map (AV.int .u8) v2))] 1 (by simp [h1, h2]) (by simp [h1, h2]) (by simp) ?_
  by_cases h3 : (Int.tmod (v2.length : Int) 64) ≠ 56
  · replace hF := ite_t h3 hF
    have h3_ := eqb_f h3
    have h3__ := neb_t h3
    refine AW.condT (by decide) (by first | (simp [h1, h2, h3, h3_, h3__]; done) | (simp [h1, h2, h3, h3_, h3__]; omega)) ?_
    refine AW.skip ?_
    refine hK261 _ _ _ ?_
    refine AW.block ?_
    refine AW.region mixed [] [none, none, none, none] (by kernel_rfl) fun G263 R263 hG263 hR263 => ?_
    obtain ⟨h4, hF⟩ := chk_elim hF
    have h4_ := h4
    try simp at h4_
    try simp [h1, h2, h3, h3_, h3__, h4]
    repeat' apply And.intro
    any_goals (first | exact hG263 _ (by kernel_rfl) | refine hR263 _ _ _ ?_ | omega | (unfold maxLen; omega) | (simp [h1, h2, h3, h3_, h3__, h4]; done) | (simp [h1, h2, h3, h3_, h3__, h4]; omega))
    refine hK259 _ _ _ ?_
    refine Can.weak [(0, AV.lst false false (List.map (AV.int .u8) v0)), (3, AV.lst false true (List.map (AV.int .u32) ([1779033703, 3144134277, 1013904242, 2773480762, 1359893119, 2600822924, 528734635, 1541459225] : List Int))), (4, AV.slc 1 0 1 ((v2 ++ ([0] : List Int)).length) false)] [(1, .grow (List.map (AV.int .u8) (v2 ++ ([0] : List Int))))] 2 (by simp [h1, h2, h3, h3_, h3__, h4] <;> omega) (by simp [h1, h2, h3, h3_, h3__, h4]) (by simp) ?_
    refine Can.ren (m := 0) h0 [(0, 1)] [(0, AV.lst false false (List.map (AV.int .u8) v0)), (3, AV.lst false true (List.map (AV.int .u32) ([1779033703, 3144134277, 1013904242, 2773480762, 1359893119, 2600822924, 528734635, 1541459225] : List Int))), (4, AV.slc 0 0 1 ((v2 ++ ([0] : List Int)).length) false)] [(0, .grow (List.map (AV.int .u8) (v2 ++ ([0] : List Int))))] 1 (by decide) (by decide) (by decide) rfl (by simp [h1, h2, h3, h3_, h3__, h4]) (by simp [h1, h2, h3, h3_, h3__, h4]) ?_
    exact Can.next (k' := n1) (v2 ++ ([0] : List Int)) (by omega) hF (by simp [h1, h2, h3, h3_, h3__, h4]) (by simp [h1, h2, h3, h3_, h3__, h4]) (by simp)
  · replace hF := ite_f h3 hF
    have h3q : (Int.tmod (v2.length : Int) 64) = 56 := Classical.not_not.1 h3
    have h3_ := eqb_t h3q
    have h3__ := neb_f h3q
    refine AW.condF (by decide) (by first | (simp [h1, h2, h3_, h3__, h3q]; done) | (simp [h1, h2, h3_, h3__, h3q]; omega)) ?_
    refine AW.exit ?_
    try simp
    refine hK246 _ _ _ ?_
    refine AW.seqR mixed [] [none, none, none, none, none] (by kernel_rfl) fun G264 R264 hG264 hR264 => ?_
    try simp [h1, h2, h3_, h3__, h3q]
    repeat' apply And.intro
    any_goals (first | exact hG264 _ (by kernel_rfl) | refine hR264 _ _ _ ?_ | omega | (unfold maxLen; omega) | (simp [h1, h2, h3_, h3__, h3q]; done) | (simp [h1, h2, h3_, h3__, h3q]; omega))
    refine AW.wk [(3, AV.lst false true (List.map (AV.int .u32) ([1779033703, 3144134277, 1013904242, 2773480762, 1359893119, 2600822924, 528734635, 1541459225] : List Int))), (4, AV.slc 0 0 1 v2.length false), (5, AV.int .u64 (IntKind.wrap .u64 (IntKind.wrap .u64 (v0.length : Int) * 8)))] [(0, .grow (List.map (AV.int .u8) v2))] 1 (by simp [h1, h2, h3_, h3__, h3q]) (by simp [h1, h2, h3_, h3__, h3q]) (by simp) ?_
    refine AW.seq fun K295 hK295 => ?_
    refine AW.seqR mixed [] [none] (by kernel_rfl) fun G296 R296 hG296 hR296 => ?_
    try simp [h1, h2, h3_, h3__, h3q]
    repeat' apply And.intro
    any_goals (first | exact hG296 _ (by kernel_rfl) | refine hR296 _ _ _ ?_ | omega | (unfold maxLen; omega) | (simp [h1, h2, h3_, h3__, h3q]; done) | (simp [h1, h2, h3_, h3__, h3q]; omega))
    refine AW.wk [(3, AV.lst false true (List.map (AV.int .u32) ([1779033703, 3144134277, 1013904242, 2773480762, 1359893119, 2600822924, 528734635, 1541459225] : List Int))), (4, AV.slc 0 0 1 v2.length false), (5, AV.int .u64 (IntKind.wrap .u64 (IntKind.wrap .u64 (v0.length : Int) * 8))), (6, AV.int .i64 7)] [(0, .grow (List.map (AV.int .u8) v2))] 1 (by simp [h1, h2, h3_, h3__, h3q]) (by simp [h1, h2, h3_, h3__, h3q]) (by simp) ?_
    refine AW.block ?_
    refine AW.loopF (α := (Int × (List Int))) (fun n (v3, v4) => ref01_Sum.L2 k v0 n v3 v4 = some v1) (fun (v3, v4) => [(3, AV.lst false true (List.map (AV.int .u32) ([1779033703, 3144134277, 1013904242, 2773480762, 1359893119, 2600822924, 528734635, 1541459225] : List Int))), (4, AV.slc 0 0 1 v4.length false), (5, AV.int .u64 (IntKind.wrap .u64 (IntKind.wrap .u64 (v0.length : Int) * 8))), (6, AV.int .i64 v3)]) (fun (v3, v4) => [(0, .grow (List.map (AV.int .u8) v4))]) 1 k ((7, v2)) hF (by simp [h1, h2, h3_, h3__, h3q]) (by simp [h1, h2, h3_, h3__, h3q]) (by simp) ?_
    rintro (_|n2) ⟨v3, v4⟩ hF K318 hK318
    · try dsimp only at hF
      rw [ref01_Sum.L2] at hF; cases hF
    try dsimp only at hF
    rw [ref01_Sum.L2] at hF
    refine AW.seq fun K320 hK320 => ?_
    refine AW.seqR mixed [] [none, none] (by kernel_rfl) fun G321 R321 hG321 hR321 => ?_
    try simp [h1, h2, h3_, h3__, h3q]
    repeat' apply And.intro
    any_goals (first | exact hG321 _ (by kernel_rfl) | refine hR321 _ _ _ ?_ | omega | (unfold maxLen; omega) | (simp [h1, h2, h3_, h3__, h3q]; done) | (simp [h1, h2, h3_, h3__, h3q]; omega))
    refine AW.wk [(3, AV.lst false true (List.map (AV.int .u32) ([1779033703, 3144134277, 1013904242, 2773480762, 1359893119, 2600822924, 528734635, 1541459225] : List Int))), (4, AV.slc 0 0 1 v4.length false), (5, AV.int .u64 (IntKind.wrap .u64 (IntKind.wrap .u64 (v0.length : Int) * 8))), (6, AV.int .i64 v3), (28, AV.bool (decide (0 ≤ v3)))] [(0, .grow (List.map (AV.int .u8) v4))] 1 (by simp [h1, h2, h3_, h3__, h3q]) (by simp [h1, h2, h3_, h3__, h3q]) (by simp) ?_
    by_cases h5 : 0 ≤ v3
    · replace hF := ite_t h5 hF
      have h5_ := h5
      try simp at h5_
      refine AW.condT (by decide) (by first | (simp [h1, h2, h3_, h3__, h3q, h5, h5_]; done) | (simp [h1, h2, h3_, h3__, h3q, h5, h5_]; omega)) ?_
      refine AW.skip ?_
      refine hK320 _ _ _ ?_
      refine AW.seq fun K323 hK323 => ?_
      refine AW.block ?_
      refine AW.region mixed [] [none, none, none, none, none, none, none, none, none, none] (by kernel_rfl) fun G324 R324 hG324 hR324 => ?_
      obtain ⟨h6, hF⟩ := chk_elim hF
      obtain ⟨h7, hF⟩ := chk_elim hF
      have h7_ := h7
      try simp at h7_
      try simp [h1, h2, h3_, h3__, h3q, h5, h5_, h6, h7]
      repeat' apply And.intro
      any_goals (first | exact hG324 _ (by kernel_rfl) | refine hR324 _ _ _ ?_ | omega | (unfold maxLen; omega) | (simp [h1, h2, h3_, h3__, h3q, h5, h5_, h6, h7]; done) | (simp [h1, h2, h3_, h3__, h3q, h5, h5_, h6, h7]; omega))
      refine hK323 _ _ _ ?_
      refine AW.wk [(3, AV.lst false true (List.map (AV.int .u32) ([1779033703, 3144134277, 1013904242, 2773480762, 1359893119, 2600822924, 528734635, 1541459225] : List Int))), (4, AV.slc 1 0 1 ((v4 ++ ([IntKind.wrap .u8 (Int.fdiv (IntKind.wrap .u64 (IntKind.wrap .u64 (v0.length : Int) * 8)) (2 ^ (min ((IntKind.wrap .u64 (IntKind.wrap .i64 (8 * v3))).toNat) 64)))] : List Int)).length) false), (5, AV.int .u64 (IntKind.wrap .u64 (IntKind.wrap .u64 (v0.length : Int) * 8))), (6, AV.int .i64 v3)] [(1, .grow (List.map (AV.int .u8) (v4 ++ ([IntKind.wrap .u8 (Int.fdiv (IntKind.wrap .u64 (IntKind.wrap .u64 (v0.length : Int) * 8)) (2 ^ (min ((IntKind.wrap .u64 (IntKind.wrap .i64 (8 * v3))).toNat) 64)))] : List Int))))] 2 (by simp [h1, h2, h3_, h3__, h3q, h5, h5_, h6, h7] <;> omega) (by simp [h1, h2, h3_, h3__, h3q, h5, h5_, h6, h7]) (by simp) ?_
      refine AW.region mixed [] [none, none, none] (by kernel_rfl) fun G325 R325 hG325 hR325 => ?_
      try simp [h1, h2, h3_, h3__, h3q, h5, h5_, h6, h7]
      repeat' apply And.intro
      any_goals (first | exact hG325 _ (by kernel_rfl) | refine hR325 _ _ _ ?_ | omega | (unfold maxLen; omega) | (simp [h1, h2, h3_, h3__, h3q, h5, h5_, h6, h7]; done) | (simp [h1, h2, h3_, h3__, h3q, h5, h5_, h6, h7]; omega))
      refine hK318 _ _ _ ?_
      refine Can.weak [(3, AV.lst false true (List.map (AV.int .u32) ([1779033703, 3144134277, 1013904242, 2773480762, 1359893119, 2600822924, 528734635, 1541459225] : List Int))), (4, AV.slc 1 0 1 ((v4 ++ ([IntKind.wrap .u8 (Int.fdiv (IntKind.wrap .u64 (IntKind.wrap .u64 (v0.length : Int) * 8)) (2 ^ (min ((IntKind.wrap .u64 (IntKind.wrap .i64 (8 * v3))).toNat) 64)))] : List Int)).length) false), (5, AV.int .u64 (IntKind.wrap .u64 (IntKind.wrap .u64 (v0.length : Int) * 8))), (6, AV.int .i64 (IntKind.wrap .i64 (v3 - 1)))] [(1, .grow (List.map (AV.int .u8) (v4 ++ ([IntKind.wrap .u8 (Int.fdiv (IntKind.wrap .u64 (IntKind.wrap .u64 (v0.length : Int) * 8)) (2 ^ (min ((IntKind.wrap .u64 (IntKind.wrap .i64 (8 * v3))).toNat) 64)))] : List Int))))] 2 (by simp [h1, h2, h3_, h3__, h3q, h5, h5_, h6, h7] <;> omega) (by simp [h1, h2, h3_, h3__, h3q, h5, h5_, h6, h7]) (by simp) ?_
      refine Can.ren (m := 0) h0 [(0, 1)] [(3, AV.lst false true (List.map (AV.int .u32) ([1779033703, 3144134277, 1013904242, 2773480762, 1359893119, 2600822924, 528734635, 1541459225] : List Int))), (4, AV.slc 0 0 1 ((v4 ++ ([IntKind.wrap .u8 (Int.fdiv (IntKind.wrap .u64 (IntKind.wrap .u64 (v0.length : Int) * 8)) (2 ^ (min ((IntKind.wrap .u64 (IntKind.wrap .i64 (8 * v3))).toNat) 64)))] : List Int)).length) false), (5, AV.int .u64 (IntKind.wrap .u64 (IntKind.wrap .u64 (v0.length : Int) * 8))), (6, AV.int .i64 (IntKind.wrap .i64 (v3 - 1)))] [(0, .grow (List.map (AV.int .u8) (v4 ++ ([IntKind.wrap .u8 (Int.fdiv (IntKind.wrap .u64 (IntKind.wrap .u64 (v0.length : Int) * 8)) (2 ^ (min ((IntKind.wrap .u64 (IntKind.wrap .i64 (8 * v3))).toNat) 64)))] : List Int))))] 1 (by decide) (by decide) (by decide) rfl (by simp [h1, h2, h3_, h3__, h3q, h5, h5_, h6, h7]) (by simp [h1, h2, h3_, h3__, h3q, h5, h5_, h6, h7]) ?_
      exact Can.next (k' := n2) ((IntKind.wrap .i64 (v3 - 1), v4 ++ ([IntKind.wrap .u8 (Int.fdiv (IntKind.wrap .u64 (IntKind.wrap .u64 (v0.length : Int) * 8)) (2 ^ (min ((IntKind.wrap .u64 (IntKind.wrap .i64 (8 * v3))).toNat) 64)))] : List Int))) (by omega) hF (by simp [h1, h2, h3_, h3__, h3q, h5, h5_, h6, h7]) (by simp [h1, h2, h3_, h3__, h3q, h5, h5_, h6, h7]) (by simp)
    · replace hF := ite_f h5 hF
      have h5_ := h5
      try simp at h5_
      refine AW.condF (by decide) (by first | (simp [h1, h2, h3_, h3__, h3q, h5, h5_]; done) | (simp [h1, h2, h3_, h3__, h3q, h5, h5_]; omega)) ?_
      refine AW.exit ?_
      try simp
      refine hK295 _ _ _ ?_
      refine AW.wk [(3, AV.lst false true (List.map (AV.int .u32) ([1779033703, 3144134277, 1013904242, 2773480762, 1359893119, 2600822924, 528734635, 1541459225] : List Int))), (4, AV.slc 0 0 1 v4.length false)] [(0, .grow (List.map (AV.int .u8) v4))] 1 (by simp [h1, h2, h3_, h3__, h3q, h5, h5_]) (by simp [h1, h2, h3_, h3__, h3q, h5, h5_]) (by simp) ?_
      refine AW.frz 0 (o := .grow (List.map (AV.int .u8) v4)) (by simp [h1, h2, h3_, h3__, h3q, h5, h5_]) rfl [(4, AV.lst false false (List.map (AV.int .u8) v4))] [] ⟨(.l (by simp) (by simp) (by simp) (by simp)), trivial⟩ trivial ?_
      refine AW.wk [(3, AV.lst false true (List.map (AV.int .u32) ([1779033703, 3144134277, 1013904242, 2773480762, 1359893119, 2600822924, 528734635, 1541459225] : List Int))), (4, AV.lst false false (List.map (AV.int .u8) v4))] [] 1 (by simp [h1, h2, h3_, h3__, h3q, h5, h5_]) (by simp [h1, h2, h3_, h3__, h3q, h5, h5_]) (by simp) ?_
      refine AW.seqR mixed [] [none, none] (by kernel_rfl) fun G326 R326 hG326 hR326 => ?_
      try simp [h1, h2, h3_, h3__, h3q, h5, h5_]
      repeat' apply And.intro
      try any_goals (first | omega | (unfold maxLen; omega) | (simp [h1, h2, h3_, h3__, h3q, h5, h5_]; done))
      obtain ⟨v5, h8, hF⟩ := bnd1_elim hF
      refine aCall_l (w_ref01_constants k _ h8) (by simp) [] [] [] rfl .nil (by simp [h1, h2, h3_, h3__, h3q, h5, h5_]) (by decide) (by simp) (by simp) (.inl rfl) (by simp) (by simp) ?_
      try simp [h1, h2, h3_, h3__, h3q, h5, h5_]
      repeat' apply And.intro
      any_goals (first | exact hG326 _ (by kernel_rfl) | refine hR326 _ _ _ ?_ | omega | (unfold maxLen; omega) | (simp [h1, h2, h3_, h3__, h3q, h5, h5_]; done) | (simp [h1, h2, h3_, h3__, h3q, h5, h5_]; omega))
      refine AW.wk [(3, AV.lst false true (List.map (AV.int .u32) ([1779033703, 3144134277, 1013904242, 2773480762, 1359893119, 2600822924, 528734635, 1541459225] : List Int))), (4, AV.lst false false (List.map (AV.int .u8) v4)), (7, AV.lst false false (List.map (AV.int .u32) v5))] [] 1 (by simp [h1, h2, h3_, h3__, h3q, h5, h5_]) (by simp [h1, h2, h3_, h3__, h3q, h5, h5_]) (by simp) ?_
      refine AW.seq fun K357 hK357 => ?_
      refine AW.seqR mixed [] [none] (by kernel_rfl) fun G358 R358 hG358 hR358 => ?_
      try simp [h1, h2, h3_, h3__, h3q, h5, h5_]
      repeat' apply And.intro
      any_goals (first | exact hG358 _ (by kernel_rfl) | refine hR358 _ _ _ ?_ | omega | (unfold maxLen; omega) | (simp [h1, h2, h3_, h3__, h3q, h5, h5_]; done) | (simp [h1, h2, h3_, h3__, h3q, h5, h5_]; omega))
      refine AW.wk [(3, AV.lst false true (List.map (AV.int .u32) ([1779033703, 3144134277, 1013904242, 2773480762, 1359893119, 2600822924, 528734635, 1541459225] : List Int))), (4, AV.lst false false (List.map (AV.int .u8) v4)), (7, AV.lst false false (List.map (AV.int .u32) v5)), (8, AV.int .i64 0)] [] 1 (by simp [h1, h2, h3_, h3__, h3q, h5, h5_]) (by simp [h1, h2, h3_, h3__, h3q, h5, h5_]) (by simp) ?_
      refine AW.block ?_
      refine AW.rnm (m := 0) h0 [] [(3, AV.lst false true (List.map (AV.int .u32) ([1779033703, 3144134277, 1013904242, 2773480762, 1359893119, 2600822924, 528734635, 1541459225] : List Int))), (4, AV.lst false false (List.map (AV.int .u8) v4)), (7, AV.lst false false (List.map (AV.int .u32) v5)), (8, AV.int .i64 0)] [] 0 (by decide) (by decide) (by decide) rfl (by simp [h1, h2, h3_, h3__, h3q, h5, h5_]) (by simp [h1, h2, h3_, h3__, h3q, h5, h5_]) ?_
      refine AW.flg [(3, AV.lst false false (List.map (AV.int .u32) ([1779033703, 3144134277, 1013904242, 2773480762, 1359893119, 2600822924, 528734635, 1541459225] : List Int)))] [] ⟨(.lst (by simp)), trivial⟩ trivial (by simp) ?_
      refine AW.loopF (α := ((List Int) × Int)) (fun n (v6, v7) => ref01_Sum.L3 k v4 v5 n v6 v7 = some v1) (fun (v6, v7) => [(3, AV.lst false false (List.map (AV.int .u32) v6)), (4, AV.lst false false (List.map (AV.int .u8) v4)), (7, AV.lst false false (List.map (AV.int .u32) v5)), (8, AV.int .i64 v7)]) (fun (v6, v7) => []) 0 k ((([1779033703, 3144134277, 1013904242, 2773480762, 1359893119, 2600822924, 528734635, 1541459225] : List Int), 0)) hF (by simp [h1, h2, h3_, h3__, h3q, h5, h5_]) (by simp [h1, h2, h3_, h3__, h3q, h5, h5_]) (by simp) ?_
      rintro (_|n3) ⟨v6, v7⟩ hF K380 hK380
      · try dsimp only at hF
        rw [ref01_Sum.L3] at hF; cases hF
      try dsimp only at hF
      rw [ref01_Sum.L3] at hF
      refine AW.seq fun K382 hK382 => ?_
      refine AW.seqR mixed [] [none, none, none, none] (by kernel_rfl) fun G383 R383 hG383 hR383 => ?_
      try simp [h1, h2, h3_, h3__, h3q, h5, h5_]
      repeat' apply And.intro
      any_goals (first | exact hG383 _ (by kernel_rfl) | refine hR383 _ _ _ ?_ | omega | (unfold maxLen; omega) | (simp [h1, h2, h3_, h3__, h3q, h5, h5_]; done) | (simp [h1, h2, h3_, h3__, h3q, h5, h5_]; omega))
      refine AW.wk [(3, AV.lst false false (List.map (AV.int .u32) v6)), (4, AV.lst false false (List.map (AV.int .u8) v4)), (7, AV.lst false false (List.map (AV.int .u32) v5)), (8, AV.int .i64 v7), (44, AV.bool (decide (v7 < (v4.length : Int))))] [] 0 (by simp [h1, h2, h3_, h3__, h3q, h5, h5_]) (by simp [h1, h2, h3_, h3__, h3q, h5, h5_]) (by simp) ?_
      by_cases h9 : v7 < (v4.length : Int)
      · replace hF := ite_t h9 hF
        have h9_ := h9
        try simp at h9_
        refine AW.condT (by decide) (by first | (simp [h1, h2, h3_, h3__, h3q, h5, h5_, h9, h9_]; done) | (simp [h1, h2, h3_, h3__, h3q, h5, h5_, h9, h9_]; omega)) ?_
        refine AW.skip ?_
        refine hK382 _ _ _ ?_
        refine AW.seq fun K385 hK385 => ?_
        refine AW.block ?_
        refine AW.region mixed [] [none, none, none, none, none, none, none, none, none] (by kernel_rfl) fun G386 R386 hG386 hR386 => ?_
        obtain ⟨⟨h10, h11, h12⟩, hF⟩ := chk_elim hF
        have h10_ := h10
        try simp at h10_
        have h11_ := h11
        try simp at h11_
        have h12_ := h12
        try simp at h12_
        try simp [h1, h2, h3_, h3__, h3q, h5, h5_, h9, h9_, h10, h11, h12, h10_, h11_, h12_]
        repeat' apply And.intro
        try any_goals (first | omega | (unfold maxLen; omega) | (simp [h1, h2, h3_, h3__, h3q, h5, h5_, h9, h9_, h10, h11, h12, h10_, h11_, h12_]; done))
        obtain ⟨v8, h13, hF⟩ := bnd1_elim hF
        refine aCall_l (w_ref01_block k _ _ _ _ h13) (by simp) [] [] [] rfl (.cons (.same (by simp [h1, h2, h3_, h3__, h3q, h5, h5_, h9, h9_, h10, h11, h12, h10_, h11_, h12_])) (.cons (.same (by simp [h1, h2, h3_, h3__, h3q, h5, h5_, h9, h9_, h10, h11, h12, h10_, h11_, h12_])) (.cons (.same (by simp [h1, h2, h3_, h3__, h3q, h5, h5_, h9, h9_, h10, h11, h12, h10_, h11_, h12_])) .nil))) (by simp [h1, h2, h3_, h3__, h3q, h5, h5_, h9, h9_, h10, h11, h12, h10_, h11_, h12_]) (by decide) (by simp) (by simp) (.inl rfl) (by simp) (by simp) ?_
        try simp [h1, h2, h3_, h3__, h3q, h5, h5_, h9, h9_, h10, h11, h12, h10_, h11_, h12_]
        repeat' apply And.intro
        any_goals (first | exact hG386 _ (by kernel_rfl) | refine hR386 _ _ _ ?_ | omega | (unfold maxLen; omega) | (simp [h1, h2, h3_, h3__, h3q, h5, h5_, h9, h9_, h10, h11, h12, h10_, h11_, h12_]; done) | (simp [h1, h2, h3_, h3__, h3q, h5, h5_, h9, h9_, h10, h11, h12, h10_, h11_, h12_]; omega))
        refine hK385 _ _ _ ?_
        refine AW.wk [(3, AV.slc 0 0 1 v8.length false), (4, AV.lst false false (List.map (AV.int .u8) v4)), (7, AV.lst false false (List.map (AV.int .u32) v5)), (8, AV.int .i64 v7)] [(0, .grow (List.map (AV.int .u32) v8))] 1 (by simp [h1, h2, h3_, h3__, h3q, h5, h5_, h9, h9_, h10, h11, h12, h10_, h11_, h12_]) (by simp [h1, h2, h3_, h3__, h3q, h5, h5_, h9, h9_, h10, h11, h12, h10_, h11_, h12_]) (by simp) ?_
        refine AW.frz 0 (o := .grow (List.map (AV.int .u32) v8)) (by simp [h1, h2, h3_, h3__, h3q, h5, h5_, h9, h9_, h10, h11, h12, h10_, h11_, h12_]) rfl [(3, AV.lst false false (List.map (AV.int .u32) v8))] [] ⟨(.l (by simp) (by simp) (by simp) (by simp)), trivial⟩ trivial ?_
        refine AW.wk [(3, AV.lst false false (List.map (AV.int .u32) v8)), (4, AV.lst false false (List.map (AV.int .u8) v4)), (7, AV.lst false false (List.map (AV.int .u32) v5)), (8, AV.int .i64 v7)] [] 1 (by simp [h1, h2, h3_, h3__, h3q, h5, h5_, h9, h9_, h10, h11, h12, h10_, h11_, h12_]) (by simp [h1, h2, h3_, h3__, h3q, h5, h5_, h9, h9_, h10, h11, h12, h10_, h11_, h12_]) (by simp) ?_
        refine AW.region mixed [] [none, none, none] (by kernel_rfl) fun G387 R387 hG387 hR387 => ?_
        try simp [h1, h2, h3_, h3__, h3q, h5, h5_, h9, h9_, h10, h11, h12, h10_, h11_, h12_]
        repeat' apply And.intro
        any_goals (first | exact hG387 _ (by kernel_rfl) | refine hR387 _ _ _ ?_ | omega | (unfold maxLen; omega) | (simp [h1, h2, h3_, h3__, h3q, h5, h5_, h9, h9_, h10, h11, h12, h10_, h11_, h12_]; done) | (simp [h1, h2, h3_, h3__, h3q, h5, h5_, h9, h9_, h10, h11, h12, h10_, h11_, h12_]; omega))
        refine hK380 _ _ _ ?_
        refine Can.weak [(3, AV.lst false false (List.map (AV.int .u32) v8)), (4, AV.lst false false (List.map (AV.int .u8) v4)), (7, AV.lst false false (List.map (AV.int .u32) v5)), (8, AV.int .i64 (IntKind.wrap .i64 (v7 + 64)))] [] 1 (by simp [h1, h2, h3_, h3__, h3q, h5, h5_, h9, h9_, h10, h11, h12, h10_, h11_, h12_]) (by simp [h1, h2, h3_, h3__, h3q, h5, h5_, h9, h9_, h10, h11, h12, h10_, h11_, h12_]) (by simp) ?_
        refine Can.ren (m := 0) h0 [] [(3, AV.lst false false (List.map (AV.int .u32) v8)), (4, AV.lst false false (List.map (AV.int .u8) v4)), (7, AV.lst false false (List.map (AV.int .u32) v5)), (8, AV.int .i64 (IntKind.wrap .i64 (v7 + 64)))] [] 0 (by decide) (by decide) (by decide) rfl (by simp [h1, h2, h3_, h3__, h3q, h5, h5_, h9, h9_, h10, h11, h12, h10_, h11_, h12_]) (by simp [h1, h2, h3_, h3__, h3q, h5, h5_, h9, h9_, h10, h11, h12, h10_, h11_, h12_]) ?_
        exact Can.next (k' := n3) ((v8, IntKind.wrap .i64 (v7 + 64))) (by omega) hF (by simp [h1, h2, h3_, h3__, h3q, h5, h5_, h9, h9_, h10, h11, h12, h10_, h11_, h12_]) (by simp [h1, h2, h3_, h3__, h3q, h5, h5_, h9, h9_, h10, h11, h12, h10_, h11_, h12_]) (by simp)
      · replace hF := ite_f h9 hF
        have h9_ := h9
        try simp at h9_
        refine AW.condF (by decide) (by first | (simp [h1, h2, h3_, h3__, h3q, h5, h5_, h9, h9_]; done) | (simp [h1, h2, h3_, h3__, h3q, h5, h5_, h9, h9_]; omega)) ?_
        refine AW.exit ?_
        try simp
        refine hK357 _ _ _ ?_
        refine AW.seqR mixed [] [none] (by kernel_rfl) fun G388 R388 hG388 hR388 => ?_
        try simp [h1, h2, h3_, h3__, h3q, h5, h5_, h9, h9_]
        repeat' apply And.intro
        any_goals (first | exact hG388 _ (by kernel_rfl) | refine hR388 _ _ _ ?_ | omega | (unfold maxLen; omega) | (simp [h1, h2, h3_, h3__, h3q, h5, h5_, h9, h9_]; done) | (simp [h1, h2, h3_, h3__, h3q, h5, h5_, h9, h9_]; omega))
        refine AW.wk [(3, AV.lst false false (List.map (AV.int .u32) v6)), (9, AV.lst true true (List.map (AV.int .u8) ([] : List Int)))] [] 0 (by simp [h1, h2, h3_, h3__, h3q, h5, h5_, h9, h9_]) (by simp [h1, h2, h3_, h3__, h3q, h5, h5_, h9, h9_]) (by simp) ?_
        refine AW.seq fun K419 hK419 => ?_
        refine AW.seqR mixed [] [none] (by kernel_rfl) fun G420 R420 hG420 hR420 => ?_
        try simp [h1, h2, h3_, h3__, h3q, h5, h5_, h9, h9_]
        repeat' apply And.intro
        any_goals (first | exact hG420 _ (by kernel_rfl) | refine hR420 _ _ _ ?_ | omega | (unfold maxLen; omega) | (simp [h1, h2, h3_, h3__, h3q, h5, h5_, h9, h9_]; done) | (simp [h1, h2, h3_, h3__, h3q, h5, h5_, h9, h9_]; omega))
        refine AW.wk [(3, AV.lst false false (List.map (AV.int .u32) v6)), (9, AV.lst true true (List.map (AV.int .u8) ([] : List Int))), (10, AV.int .i64 0)] [] 0 (by simp [h1, h2, h3_, h3__, h3q, h5, h5_, h9, h9_]) (by simp [h1, h2, h3_, h3__, h3q, h5, h5_, h9, h9_]) (by simp) ?_
        refine AW.block ?_
        refine AW.own' 9 1 true (by simp [h1, h2, h3_, h3__, h3q, h5, h5_, h9, h9_]) (by decide) ?_
        refine AW.loopF (α := (Int × (List Int))) (fun n (v9, v10) => ref01_Sum.L4 k v6 n v9 v10 = some v1) (fun (v9, v10) => [(3, AV.lst false false (List.map (AV.int .u32) v6)), (9, AV.slc 0 0 1 v10.length false), (10, AV.int .i64 v9)]) (fun (v9, v10) => [(0, .grow (List.map (AV.int .u8) v10))]) 1 k ((0, ([] : List Int))) hF (by simp [h1, h2, h3_, h3__, h3q, h5, h5_, h9, h9_]) (by simp [h1, h2, h3_, h3__, h3q, h5, h5_, h9, h9_]) (by simp) ?_
        rintro (_|n4) ⟨v9, v10⟩ hF K442 hK442
        · try dsimp only at hF
          rw [ref01_Sum.L4] at hF; cases hF
        try dsimp only at hF
        rw [ref01_Sum.L4] at hF
        refine AW.seq fun K444 hK444 => ?_
        refine AW.seqR mixed [] [none, none] (by kernel_rfl) fun G445 R445 hG445 hR445 => ?_
        try simp [h1, h2, h3_, h3__, h3q, h5, h5_, h9, h9_]
        repeat' apply And.intro
        any_goals (first | exact hG445 _ (by kernel_rfl) | refine hR445 _ _ _ ?_ | omega | (unfold maxLen; omega) | (simp [h1, h2, h3_, h3__, h3q, h5, h5_, h9, h9_]; done) | (simp [h1, h2, h3_, h3__, h3q, h5, h5_, h9, h9_]; omega))
        refine AW.wk [(3, AV.lst false false (List.map (AV.int .u32) v6)), (9, AV.slc 0 0 1 v10.length false), (10, AV.int .i64 v9), (56, AV.bool (decide (v9 < 8)))] [(0, .grow (List.map (AV.int .u8) v10))] 1 (by simp [h1, h2, h3_, h3__, h3q, h5, h5_, h9, h9_]) (by simp [h1, h2, h3_, h3__, h3q, h5, h5_, h9, h9_]) (by simp) ?_
        by_cases h14 : v9 < 8
        · replace hF := ite_t h14 hF
          have h14_ := h14
          try simp at h14_
          refine AW.condT (by decide) (by first | (simp [h1, h2, h3_, h3__, h3q, h5, h5_, h9, h9_, h14, h14_]; done) | (simp [h1, h2, h3_, h3__, h3q, h5, h5_, h9, h9_, h14, h14_]; omega)) ?_
          refine AW.skip ?_
          refine hK444 _ _ _ ?_
          refine AW.seq fun K447 hK447 => ?_
          refine AW.block ?_
          refine AW.region mixed [] [none, none, none, none, none, none, none, none, none, none, none, none, none, none, none, none, none, none, none, none, none, none, none, none, none, none, none] (by kernel_rfl) fun G448 R448 hG448 hR448 => ?_
          obtain ⟨v11, h15, h16, h17, hF⟩ := idx_elim hF
          have h17_ := get_of h17
          try simp at h17_
          have h16_ := h16
          try simp at h16_
          obtain ⟨h18, hF⟩ := chk_elim hF
          have h18_ := h18
          try simp at h18_
          try simp [h1, h2, h3_, h3__, h3q, h5, h5_, h9, h9_, h14, h14_, h15, h16, h17, h17_, h16_, h18]
          repeat' apply And.intro
          any_goals (first | exact hG448 _ (by kernel_rfl) | refine hR448 _ _ _ ?_ | omega | (unfold maxLen; omega) | (simp [h1, h2, h3_, h3__, h3q, h5, h5_, h9, h9_, h14, h14_, h15, h16, h17, h17_, h16_, h18]; done) | (simp [h1, h2, h3_, h3__, h3q, h5, h5_, h9, h9_, h14, h14_, h15, h16, h17, h17_, h16_, h18]; omega))
          refine hK447 _ _ _ ?_
          refine AW.wk [(3, AV.lst false false (List.map (AV.int .u32) v6)), (9, AV.slc 1 0 1 ((v10 ++ ([IntKind.wrap .u8 (Int.fdiv v11 (2 ^ (24))), IntKind.wrap .u8 (Int.fdiv v11 (2 ^ (16))), IntKind.wrap .u8 (Int.fdiv v11 (2 ^ (8))), IntKind.wrap .u8 v11] : List Int)).length) false), (10, AV.int .i64 v9)] [(1, .grow (List.map (AV.int .u8) (v10 ++ ([IntKind.wrap .u8 (Int.fdiv v11 (2 ^ (24))), IntKind.wrap .u8 (Int.fdiv v11 (2 ^ (16))), IntKind.wrap .u8 (Int.fdiv v11 (2 ^ (8))), IntKind.wrap .u8 v11] : List Int))))] 2 (by simp [h1, h2, h3_, h3__, h3q, h5, h5_, h9, h9_, h14, h14_, h15, h16, h17, h17_, h16_, h18] <;> omega) (by simp [h1, h2, h3_, h3__, h3q, h5, h5_, h9, h9_, h14, h14_, h15, h16, h17, h17_, h16_, h18]) (by simp) ?_
          refine AW.region mixed [] [none, none, none] (by kernel_rfl) fun G449 R449 hG449 hR449 => ?_
          try simp [h1, h2, h3_, h3__, h3q, h5, h5_, h9, h9_, h14, h14_, h15, h16, h17, h17_, h16_, h18]
          repeat' apply And.intro
          any_goals (first | exact hG449 _ (by kernel_rfl) | refine hR449 _ _ _ ?_ | omega | (unfold maxLen; omega) | (simp [h1, h2, h3_, h3__, h3q, h5, h5_, h9, h9_, h14, h14_, h15, h16, h17, h17_, h16_, h18]; done) | (simp [h1, h2, h3_, h3__, h3q, h5, h5_, h9, h9_, h14, h14_, h15, h16, h17, h17_, h16_, h18]; omega))
          refine hK442 _ _ _ ?_
          refine Can.weak [(3, AV.lst false false (List.map (AV.int .u32) v6)), (9, AV.slc 1 0 1 ((v10 ++ ([IntKind.wrap .u8 (Int.fdiv v11 (2 ^ (24))), IntKind.wrap .u8 (Int.fdiv v11 (2 ^ (16))), IntKind.wrap .u8 (Int.fdiv v11 (2 ^ (8))), IntKind.wrap .u8 v11] : List Int)).length) false), (10, AV.int .i64 (IntKind.wrap .i64 (v9 + 1)))] [(1, .grow (List.map (AV.int .u8) (v10 ++ ([IntKind.wrap .u8 (Int.fdiv v11 (2 ^ (24))), IntKind.wrap .u8 (Int.fdiv v11 (2 ^ (16))), IntKind.wrap .u8 (Int.fdiv v11 (2 ^ (8))), IntKind.wrap .u8 v11] : List Int))))] 2 (by simp [h1, h2, h3_, h3__, h3q, h5, h5_, h9, h9_, h14, h14_, h15, h16, h17, h17_, h16_, h18] <;> omega) (by simp [h1, h2, h3_, h3__, h3q, h5, h5_, h9, h9_, h14, h14_, h15, h16, h17, h17_, h16_, h18]) (by simp) ?_
          refine Can.ren (m := 0) h0 [(0, 1)] [(3, AV.lst false false (List.map (AV.int .u32) v6)), (9, AV.slc 0 0 1 ((v10 ++ ([IntKind.wrap .u8 (Int.fdiv v11 (2 ^ (24))), IntKind.wrap .u8 (Int.fdiv v11 (2 ^ (16))), IntKind.wrap .u8 (Int.fdiv v11 (2 ^ (8))), IntKind.wrap .u8 v11] : List Int)).length) false), (10, AV.int .i64 (IntKind.wrap .i64 (v9 + 1)))] [(0, .grow (List.map (AV.int .u8) (v10 ++ ([IntKind.wrap .u8 (Int.fdiv v11 (2 ^ (24))), IntKind.wrap .u8 (Int.fdiv v11 (2 ^ (16))), IntKind.wrap .u8 (Int.fdiv v11 (2 ^ (8))), IntKind.wrap .u8 v11] : List Int))))] 1 (by decide) (by decide) (by decide) rfl (by simp [h1, h2, h3_, h3__, h3q, h5, h5_, h9, h9_, h14, h14_, h15, h16, h17, h17_, h16_, h18]) (by simp [h1, h2, h3_, h3__, h3q, h5, h5_, h9, h9_, h14, h14_, h15, h16, h17, h17_, h16_, h18]) ?_
          exact Can.next (k' := n4) ((IntKind.wrap .i64 (v9 + 1), v10 ++ ([IntKind.wrap .u8 (Int.fdiv v11 (2 ^ (24))), IntKind.wrap .u8 (Int.fdiv v11 (2 ^ (16))), IntKind.wrap .u8 (Int.fdiv v11 (2 ^ (8))), IntKind.wrap .u8 v11] : List Int))) (by omega) hF (by simp [h1, h2, h3_, h3__, h3q, h5, h5_, h9, h9_, h14, h14_, h15, h16, h17, h17_, h16_, h18]) (by simp [h1, h2, h3_, h3__, h3q, h5, h5_, h9, h9_, h14, h14_, h15, h16, h17, h17_, h16_, h18]) (by simp)
        · replace hF := ite_f h14 hF
          have h14_ := h14
          try simp at h14_
          refine AW.condF (by decide) (by first | (simp [h1, h2, h3_, h3__, h3q, h5, h5_, h9, h9_, h14, h14_]; done) | (simp [h1, h2, h3_, h3__, h3q, h5, h5_, h9, h9_, h14, h14_]; omega)) ?_
          refine AW.exit ?_
          try simp
          refine hK419 _ _ _ ?_
          refine AW.wk [(9, AV.slc 0 0 1 v10.length false)] [(0, .grow (List.map (AV.int .u8) v10))] 1 (by simp [h1, h2, h3_, h3__, h3q, h5, h5_, h9, h9_, h14, h14_]) (by simp [h1, h2, h3_, h3__, h3q, h5, h5_, h9, h9_, h14, h14_]) (by simp) ?_
          refine AW.frz 0 (o := .grow (List.map (AV.int .u8) v10)) (by simp [h1, h2, h3_, h3__, h3q, h5, h5_, h9, h9_, h14, h14_]) rfl [(9, AV.lst false false (List.map (AV.int .u8) v10))] [] ⟨(.l (by simp) (by simp) (by simp) (by simp)), trivial⟩ trivial ?_
          refine AW.wk [(9, AV.lst false false (List.map (AV.int .u8) v10))] [] 1 (by simp [h1, h2, h3_, h3__, h3q, h5, h5_, h9, h9_, h14, h14_]) (by simp [h1, h2, h3_, h3__, h3q, h5, h5_, h9, h9_, h14, h14_]) (by simp) ?_
          refine AW.seqR mixed [] [none, none, none] (by kernel_rfl) fun G450 R450 hG450 hR450 => ?_
          try simp [h1, h2, h3_, h3__, h3q, h5, h5_, h9, h9_, h14, h14_]
          repeat' apply And.intro
          any_goals (first | exact hG450 _ (by kernel_rfl) | refine hR450 _ _ _ ?_ | omega | (unfold maxLen; omega) | (simp [h1, h2, h3_, h3__, h3q, h5, h5_, h9, h9_, h14, h14_]; done) | (simp [h1, h2, h3_, h3__, h3q, h5, h5_, h9, h9_, h14, h14_]; omega))
          refine AW.wk [(2, AV.str (ofI v10))] [] 1 (by simp [h1, h2, h3_, h3__, h3q, h5, h5_, h9, h9_, h14, h14_]) (by simp [h1, h2, h3_, h3__, h3q, h5, h5_, h9, h9_, h14, h14_]) (by simp) ?_
          simp only [Option.some.injEq] at hF
          subst hF
          refine AW.ret (hQ _ _ _ ?_ (matchO_0 ?_)).1
          · simp [Try.f15, h1, h2, h3_, h3__, h3q, h5, h5_, h9, h9_, h14, h14_]
          · simp [h1, h2, h3_, h3__, h3q, h5, h5_, h9, h9_, h14, h14_]
set_option maxHeartbeats 4000000 in
theorem w_ref25_Next (k : Nat) (v0 : ByteArray) (v1 : Int) (v2 : (List Int)) (v3 : ByteArray) (v4 : Int) (hF : ref25_Next k v0 v1 v2 = some (v3, v4)) :
    FCall Try.prog 40 [AV.str v0, AV.int .i64 v1, AV.lst false false (List.map (AV.int .i64) v2)] [] (AV.tup [AV.str v3, AV.int .i64 v4]) [] := by
  unfold ref25_Next at hF
  refine FCall.enter Try.func40 rfl (by simp) (by decide) (by simp) (by simp) (by simp) (by simp) (by simp) ?_
  intro c0 w0 Q h0 hQ
  refine AW.wk [(0, AV.str v0), (1, AV.int .i64 v1), (2, AV.lst false false (List.map (AV.int .i64) v2))] [] 0 (by simp) (by simp) (by simp) ?_
  refine AW.seqR mixed [] [none, none] (by kernel_rfl) fun G20 R20 hG20 hR20 => ?_
  try simp
  repeat' apply And.intro
  any_goals (first | exact hG20 _ (by kernel_rfl) | refine hR20 _ _ _ ?_ | omega | (unfold maxLen; omega) | (simp; done) | (simp; omega))
  refine AW.wk [(0, AV.str v0), (1, AV.int .i64 v1), (2, AV.lst false false (List.map (AV.int .i64) v2))] [] 0 (by simp) (by simp) (by simp) ?_
  refine AW.seq fun K23 hK23 => ?_
  refine AW.seqR mixed [] [none, none, none] (by kernel_rfl) fun G24 R24 hG24 hR24 => ?_
  try simp
  repeat' apply And.intro
  any_goals (first | exact hG24 _ (by kernel_rfl) | refine hR24 _ _ _ ?_ | omega | (unfold maxLen; omega) | (simp; done) | (simp; omega))
  refine AW.wk [(0, AV.str v0), (1, AV.int .i64 v1), (2, AV.lst false false (List.map (AV.int .i64) v2)), (10, AV.bool ((v0.size : Int) != 32))] [] 0 (by simp) (by simp) (by simp) ?_
  by_cases h1 : (v0.size : Int) ≠ 32
  · replace hF := ite_t h1 hF
    have h1_ := eqb_f h1
    have h1__ := neb_t h1
    refine AW.condT (by decide) (by first | (simp [h1, h1_, h1__]; done) | (simp [h1, h1_, h1__]; omega)) ?_
    refine AW.seqR mixed [] [none, none] (by kernel_rfl) fun G25 R25 hG25 hR25 => ?_
    try simp [h1, h1_, h1__]
    repeat' apply And.intro
    any_goals (first | exact hG25 _ (by kernel_rfl) | refine hR25 _ _ _ ?_ | omega | (unfold maxLen; omega) | (simp [h1, h1_, h1__]; done) | (simp [h1, h1_, h1__]; omega))
    refine AW.wk [(6, AV.str (ByteArray.mk #[])), (7, AV.int .i64 1)] [] 0 (by simp [h1, h1_, h1__]) (by simp [h1, h1_, h1__]) (by simp) ?_
    simp only [Option.some.injEq, Prod.mk.injEq] at hF
    obtain ⟨e0, e1⟩ := hF
    subst e0 e1
    refine AW.ret (hQ _ _ _ ?_ (matchO_0 ?_)).1
    · simp [Try.f40, h1, h1_, h1__]
    · simp [h1, h1_, h1__]
  · replace hF := ite_f h1 hF
    have h1q : (v0.size : Int) = 32 := Classical.not_not.1 h1
    have h1_ := eqb_t h1q
    have h1__ := neb_f h1q
    refine AW.condF (by decide) (by first | (simp [h1_, h1__, h1q]; done) | (simp [h1_, h1__, h1q]; omega)) ?_
    refine AW.skip ?_
    refine hK23 _ _ _ ?_
    refine AW.seq fun K29 hK29 => ?_
    refine AW.seqR mixed [] [none, none, none, some (13, false), some (13, false), none] (by kernel_rfl) fun G30 R30 hG30 hR30 => ?_
    by_cases h2 : v1 < 0
    · replace hF := ite_t h2 hF
      have h2_ := h2
      try simp at h2_
      try simp [h1_, h1__, h1q, h2, h2_]
      repeat' apply And.intro
      any_goals (first | exact hG30 _ (by kernel_rfl) | refine hR30 _ _ _ ?_ | omega | (unfold maxLen; omega) | (simp [h1_, h1__, h1q, h2, h2_]; done) | (simp [h1_, h1__, h1q, h2, h2_]; omega))
      refine AW.wk [(0, AV.str v0), (1, AV.int .i64 v1), (2, AV.lst false false (List.map (AV.int .i64) v2)), (16, AV.bool true)] [] 0 (by simp [h1_, h1__, h1q, h2, h2_]) (by simp [h1_, h1__, h1q, h2, h2_]) (by simp) ?_
      refine AW.condT (by decide) (by simp [h1_, h1__, h1q, h2, h2_]) ?_
      refine AW.seqR mixed [] [none, none] (by kernel_rfl) fun G31 R31 hG31 hR31 => ?_
      try simp [h1_, h1__, h1q, h2, h2_]
      repeat' apply And.intro
      any_goals (first | exact hG31 _ (by kernel_rfl) | refine hR31 _ _ _ ?_ | omega | (unfold maxLen; omega) | (simp [h1_, h1__, h1q, h2, h2_]; done) | (simp [h1_, h1__, h1q, h2, h2_]; omega))
      refine AW.wk [(6, AV.str (ByteArray.mk #[])), (7, AV.int .i64 2)] [] 0 (by simp [h1_, h1__, h1q, h2, h2_]) (by simp [h1_, h1__, h1q, h2, h2_]) (by simp) ?_
      simp only [Option.some.injEq, Prod.mk.injEq] at hF
      obtain ⟨e0, e1⟩ := hF
      subst e0 e1
      refine AW.ret (hQ _ _ _ ?_ (matchO_0 ?_)).1
      · simp [Try.f40, h1_, h1__, h1q, h2, h2_]
      · simp [h1_, h1__, h1q, h2, h2_]
    · replace hF := ite_f h2 hF
      have h2_ := h2
      try simp at h2_
      try simp [h1_, h1__, h1q, h2, h2_]
      repeat' apply And.intro
      any_goals (first | exact hG30 _ (by kernel_rfl) | refine hR30 _ _ _ ?_ | omega | (unfold maxLen; omega) | (simp [h1_, h1__, h1q, h2, h2_]; done) | (simp [h1_, h1__, h1q, h2, h2_]; omega))
      refine AW.wk [(0, AV.str v0), (1, AV.int .i64 v1), (2, AV.lst false false (List.map (AV.int .i64) v2)), (16, AV.bool (decide (40 ≤ v1)))] [] 0 (by simp [h1_, h1__, h1q, h2, h2_]) (by simp [h1_, h1__, h1q, h2, h2_]) (by simp) ?_
      by_cases h3 : 40 ≤ v1
      · replace hF := ite_t h3 hF
        have h3_ := h3
        try simp at h3_
        refine AW.condT (by decide) (by first | (simp [h1_, h1__, h1q, h2, h2_, h3, h3_]; done) | (simp [h1_, h1__, h1q, h2, h2_, h3, h3_]; omega)) ?_
        refine AW.seqR mixed [] [none, none] (by kernel_rfl) fun G32 R32 hG32 hR32 => ?_
        try simp [h1_, h1__, h1q, h2, h2_, h3, h3_]
        repeat' apply And.intro
        any_goals (first | exact hG32 _ (by kernel_rfl) | refine hR32 _ _ _ ?_ | omega | (unfold maxLen; omega) | (simp [h1_, h1__, h1q, h2, h2_, h3, h3_]; done) | (simp [h1_, h1__, h1q, h2, h2_, h3, h3_]; omega))
        refine AW.wk [(6, AV.str (ByteArray.mk #[])), (7, AV.int .i64 2)] [] 0 (by simp [h1_, h1__, h1q, h2, h2_, h3, h3_]) (by simp [h1_, h1__, h1q, h2, h2_, h3, h3_]) (by simp) ?_
        simp only [Option.some.injEq, Prod.mk.injEq] at hF
        obtain ⟨e0, e1⟩ := hF
        subst e0 e1
        refine AW.ret (hQ _ _ _ ?_ (matchO_0 ?_)).1
        · simp [Try.f40, h1_, h1__, h1q, h2, h2_, h3, h3_]
        · simp [h1_, h1__, h1q, h2, h2_, h3, h3_]
      · replace hF := ite_f h3 hF
        have h3_ := h3
        try simp at h3_
        refine AW.condF (by decide) (by first | (simp [h1_, h1__, h1q, h2, h2_, h3, h3_]; done) | (simp [h1_, h1__, h1q, h2, h2_, h3, h3_]; omega)) ?_
        refine AW.skip ?_
        refine hK29 _ _ _ ?_
        refine AW.seq fun K35 hK35 => ?_
        refine AW.seqR mixed [] [none, none, none] (by kernel_rfl) fun G36 R36 hG36 hR36 => ?_
        try simp [h1_, h1__, h1q, h2, h2_, h3, h3_]
        repeat' apply And.intro
        any_goals (first | exact hG36 _ (by kernel_rfl) | refine hR36 _ _ _ ?_ | omega | (unfold maxLen; omega) | (simp [h1_, h1__, h1q, h2, h2_, h3, h3_]; done) | (simp [h1_, h1__, h1q, h2, h2_, h3, h3_]; omega))
        refine AW.wk [(0, AV.str v0), (1, AV.int .i64 v1), (2, AV.lst false false (List.map (AV.int .i64) v2)), (19, AV.bool (decide (64 < (v2.length : Int))))] [] 0 (by simp [h1_, h1__, h1q, h2, h2_, h3, h3_]) (by simp [h1_, h1__, h1q, h2, h2_, h3, h3_]) (by simp) ?_
        by_cases h4 : 64 < (v2.length : Int)
        · replace hF := ite_t h4 hF
          have h4_ := h4
          try simp at h4_
          refine AW.condT (by decide) (by first | (simp [h1_, h1__, h1q, h2, h2_, h3, h3_, h4, h4_]; done) | (simp [h1_, h1__, h1q, h2, h2_, h3, h3_, h4, h4_]; omega)) ?_
          refine AW.seqR mixed [] [none, none] (by kernel_rfl) fun G37 R37 hG37 hR37 => ?_
          try simp [h1_, h1__, h1q, h2, h2_, h3, h3_, h4, h4_]
          repeat' apply And.intro
          any_goals (first | exact hG37 _ (by kernel_rfl) | refine hR37 _ _ _ ?_ | omega | (unfold maxLen; omega) | (simp [h1_, h1__, h1q, h2, h2_, h3, h3_, h4, h4_]; done) | (simp [h1_, h1__, h1q, h2, h2_, h3, h3_, h4, h4_]; omega))
          refine AW.wk [(6, AV.str (ByteArray.mk #[])), (7, AV.int .i64 3)] [] 0 (by simp [h1_, h1__, h1q, h2, h2_, h3, h3_, h4, h4_]) (by simp [h1_, h1__, h1q, h2, h2_, h3, h3_, h4, h4_]) (by simp) ?_
          simp only [Option.some.injEq, Prod.mk.injEq] at hF
          obtain ⟨e0, e1⟩ := hF
          subst e0 e1
          refine AW.ret (hQ _ _ _ ?_ (matchO_0 ?_)).1
          · simp [Try.f40, h1_, h1__, h1q, h2, h2_, h3, h3_, h4, h4_]
          · simp [h1_, h1__, h1q, h2, h2_, h3, h3_, h4, h4_]
        · replace hF := ite_f h4 hF
          have h4_ := h4
          try simp at h4_
          refine AW.condF (by decide) (by first | (simp [h1_, h1__, h1q, h2, h2_, h3, h3_, h4, h4_]; done) | (simp [h1_, h1__, h1q, h2, h2_, h3, h3_, h4, h4_]; omega)) ?_
          refine AW.skip ?_
          refine hK35 _ _ _ ?_
          refine AW.seqR mixed [22] [none, none, none, none, none, none, none, none, none, none] (by kernel_rfl) fun G38 R38 hG38 hR38 => ?_
          obtain ⟨h5, hF⟩ := chk_elim hF
          have h5_ := h5
          try simp at h5_
          try simp [h1_, h1__, h1q, h2, h2_, h3, h3_, h4, h4_, h5]
          repeat' apply And.intro
          try any_goals (first | omega | (unfold maxLen; omega) | (simp [h1_, h1__, h1q, h2, h2_, h3, h3_, h4, h4_, h5]; done))
          obtain ⟨v5, h6, hF⟩ := bnd1_elim hF
          refine aCall_l (w_ref25_number k _ _ _ h6) (by simp) [0] [] [0] rfl (.cons (.same (by simp [h1_, h1__, h1q, h2, h2_, h3, h3_, h4, h4_, h5])) (.cons (.same (by simp [h1_, h1__, h1q, h2, h2_, h3, h3_, h4, h4_, h5])) .nil)) (by simp [h1_, h1__, h1q, h2, h2_, h3, h3_, h4, h4_, h5]) (by decide) (by simp) (by simp) (.inl rfl) (by simp) (by simp) ?_
          try simp [h1_, h1__, h1q, h2, h2_, h3, h3_, h4, h4_, h5]
          repeat' apply And.intro
          try any_goals (first | omega | (unfold maxLen; omega) | (simp [h1_, h1__, h1q, h2, h2_, h3, h3_, h4, h4_, h5]; done))
          obtain ⟨v6, h7, hF⟩ := bnd1_elim hF
          refine aCall_l (w_ref25_list k _ _ _ h7) (by simp) [1] [] [1] rfl (.cons (.same (by simp [h1_, h1__, h1q, h2, h2_, h3, h3_, h4, h4_, h5])) (.cons (.same (by simp [h1_, h1__, h1q, h2, h2_, h3, h3_, h4, h4_, h5])) .nil)) (by simp [h1_, h1__, h1q, h2, h2_, h3, h3_, h4, h4_, h5]) (by decide) (by simp) (by simp) (.inl rfl) (by simp) (by simp) ?_
          try simp [h1_, h1__, h1q, h2, h2_, h3, h3_, h4, h4_, h5]
          repeat' apply And.intro
          try any_goals (first | omega | (unfold maxLen; omega) | (simp [h1_, h1__, h1q, h2, h2_, h3, h3_, h4, h4_, h5]; done))
          obtain ⟨v7, h8, hF⟩ := bnd1_elim hF
          refine aCall_l (w_ref01_Sum k _ _ h8) (by simp) [] [2] [] rfl (.cons (Coe.l (o := .grow (List.map (AV.int .u8) v6)) (by simp [h1_, h1__, h1q, h2, h2_, h3, h3_, h4, h4_, h5]) rfl (by simp [h1_, h1__, h1q, h2, h2_, h3, h3_, h4, h4_, h5]) (by simp [noIdsL]) (by simp [h1_, h1__, h1q, h2, h2_, h3, h3_, h4, h4_, h5]) (by simp [h1_, h1__, h1q, h2, h2_, h3, h3_, h4, h4_, h5])) .nil) (by simp [h1_, h1__, h1q, h2, h2_, h3, h3_, h4, h4_, h5]) (by decide) (by simp) (by simp) (.inr ⟨by simp, by simp⟩) (by simp) (by simp) ?_
          try simp [h1_, h1__, h1q, h2, h2_, h3, h3_, h4, h4_, h5]
          repeat' apply And.intro
          any_goals (first | exact hG38 _ (by kernel_rfl) | refine hR38 _ _ _ ?_ | omega | (unfold maxLen; omega) | (simp [h1_, h1__, h1q, h2, h2_, h3, h3_, h4, h4_, h5]; done) | (simp [h1_, h1__, h1q, h2, h2_, h3, h3_, h4, h4_, h5]; omega))
          refine AW.wk [(6, AV.str v7), (7, AV.int .i64 0)] [] 3 (by simp [h1_, h1__, h1q, h2, h2_, h3, h3_, h4, h4_, h5]) (by simp [h1_, h1__, h1q, h2, h2_, h3, h3_, h4, h4_, h5]) (by simp) ?_
          simp only [Option.some.injEq, Prod.mk.injEq] at hF
          obtain ⟨e0, e1⟩ := hF
          subst e0 e1
          refine AW.ret (hQ _ _ _ ?_ (matchO_0 ?_)).1
          · simp [Try.f40, h1_, h1__, h1q, h2, h2_, h3, h3_, h4, h4_, h5]
          · simp [h1_, h1__, h1q, h2, h2_, h3, h3_, h4, h4_, h5]
set_option maxHeartbeats 4000000 in
theorem w_ref25_Numbers (k : Nat) (v0 : ByteArray) (v1 : (List Int)) (v2 : Int) (v3 : (List Int)) (v4 : Int) (hF : ref25_Numbers k v0 v1 v2 = some (v3, v4)) :
    FCall Try.prog 42 [AV.str v0, AV.lst false false (List.map (AV.int .i64) v1), AV.int .i64 v2] [] (AV.tup [AV.slc 0 0 1 v3.length false, AV.int .i64 v4]) [some (.grow (List.map (AV.int .i64) v3))] := by
  unfold ref25_Numbers at hF
  refine FCall.enter Try.func42 rfl (by simp) (by decide) (by simp) (by simp) (by simp) (by simp) (by simp) ?_
  intro c0 w0 Q h0 hQ
  refine AW.wk [(0, AV.str v0), (1, AV.lst false false (List.map (AV.int .i64) v1)), (2, AV.int .i64 v2)] [] 0 (by simp) (by simp) (by simp) ?_
  refine AW.seqR mixed [] [none, none] (by kernel_rfl) fun G98 R98 hG98 hR98 => ?_
  try simp
  repeat' apply And.intro
  any_goals (first | exact hG98 _ (by kernel_rfl) | refine hR98 _ _ _ ?_ | omega | (unfold maxLen; omega) | (simp; done) | (simp; omega))
  refine AW.wk [(0, AV.str v0), (1, AV.lst false false (List.map (AV.int .i64) v1)), (2, AV.int .i64 v2)] [] 0 (by simp) (by simp) (by simp) ?_
  refine AW.seq fun K101 hK101 => ?_
  refine AW.seqR mixed [] [none, none, none] (by kernel_rfl) fun G102 R102 hG102 hR102 => ?_
  try simp
  repeat' apply And.intro
  any_goals (first | exact hG102 _ (by kernel_rfl) | refine hR102 _ _ _ ?_ | omega | (unfold maxLen; omega) | (simp; done) | (simp; omega))
  refine AW.wk [(0, AV.str v0), (1, AV.lst false false (List.map (AV.int .i64) v1)), (2, AV.int .i64 v2), (13, AV.bool ((v0.size : Int) != 32))] [] 0 (by simp) (by simp) (by simp) ?_
  by_cases h1 : (v0.size : Int) ≠ 32
  · replace hF := ite_t h1 hF
    have h1_ := eqb_f h1
    have h1__ := neb_t h1
    refine AW.condT (by decide) (by first | (simp [h1, h1_, h1__]; done) | (simp [h1, h1_, h1__]; omega)) ?_
    refine AW.seqR mixed [] [none, none] (by kernel_rfl) fun G103 R103 hG103 hR103 => ?_
    try simp [h1, h1_, h1__]
    repeat' apply And.intro
    any_goals (first | exact hG103 _ (by kernel_rfl) | refine hR103 _ _ _ ?_ | omega | (unfold maxLen; omega) | (simp [h1, h1_, h1__]; done) | (simp [h1, h1_, h1__]; omega))
    refine AW.wk [(6, AV.lst true true (List.map (AV.int .i64) ([] : List Int))), (7, AV.int .i64 1)] [] 0 (by simp [h1, h1_, h1__]) (by simp [h1, h1_, h1__]) (by simp) ?_
    refine AW.own' 6 1 true (by simp [h1, h1_, h1__]) (by decide) ?_
    simp only [Option.some.injEq, Prod.mk.injEq] at hF
    obtain ⟨e0, e1⟩ := hF
    subst e0 e1
    refine AW.ret (hQ _ _ _ ?_ (matchO_0 ?_)).1
    · simp [Try.f42, h1, h1_, h1__]
    · simp [h1, h1_, h1__]
  · replace hF := ite_f h1 hF
    have h1q : (v0.size : Int) = 32 := Classical.not_not.1 h1
    have h1_ := eqb_t h1q
    have h1__ := neb_f h1q
    refine AW.condF (by decide) (by first | (simp [h1_, h1__, h1q]; done) | (simp [h1_, h1__, h1q]; omega)) ?_
    refine AW.skip ?_
    refine hK101 _ _ _ ?_
    refine AW.seq fun K106 hK106 => ?_
    refine AW.seqR mixed [] [none, none, none] (by kernel_rfl) fun G107 R107 hG107 hR107 => ?_
    try simp [h1_, h1__, h1q]
    repeat' apply And.intro
    any_goals (first | exact hG107 _ (by kernel_rfl) | refine hR107 _ _ _ ?_ | omega | (unfold maxLen; omega) | (simp [h1_, h1__, h1q]; done) | (simp [h1_, h1__, h1q]; omega))
    refine AW.wk [(0, AV.str v0), (1, AV.lst false false (List.map (AV.int .i64) v1)), (2, AV.int .i64 v2), (16, AV.bool (decide (64 < (v1.length : Int))))] [] 0 (by simp [h1_, h1__, h1q]) (by simp [h1_, h1__, h1q]) (by simp) ?_
    by_cases h2 : 64 < (v1.length : Int)
    · replace hF := ite_t h2 hF
      have h2_ := h2
      try simp at h2_
      refine AW.condT (by decide) (by first | (simp [h1_, h1__, h1q, h2, h2_]; done) | (simp [h1_, h1__, h1q, h2, h2_]; omega)) ?_
      refine AW.seqR mixed [] [none, none] (by kernel_rfl) fun G108 R108 hG108 hR108 => ?_
      try simp [h1_, h1__, h1q, h2, h2_]
      repeat' apply And.intro
      any_goals (first | exact hG108 _ (by kernel_rfl) | refine hR108 _ _ _ ?_ | omega | (unfold maxLen; omega) | (simp [h1_, h1__, h1q, h2, h2_]; done) | (simp [h1_, h1__, h1q, h2, h2_]; omega))
      refine AW.wk [(6, AV.lst true true (List.map (AV.int .i64) ([] : List Int))), (7, AV.int .i64 3)] [] 0 (by simp [h1_, h1__, h1q, h2, h2_]) (by simp [h1_, h1__, h1q, h2, h2_]) (by simp) ?_
      refine AW.own' 6 1 true (by simp [h1_, h1__, h1q, h2, h2_]) (by decide) ?_
      simp only [Option.some.injEq, Prod.mk.injEq] at hF
      obtain ⟨e0, e1⟩ := hF
      subst e0 e1
      refine AW.ret (hQ _ _ _ ?_ (matchO_0 ?_)).1
      · simp [Try.f42, h1_, h1__, h1q, h2, h2_]
      · simp [h1_, h1__, h1q, h2, h2_]
    · replace hF := ite_f h2 hF
      have h2_ := h2
      try simp at h2_
      refine AW.condF (by decide) (by first | (simp [h1_, h1__, h1q, h2, h2_]; done) | (simp [h1_, h1__, h1q, h2, h2_]; omega)) ?_
      refine AW.skip ?_
      refine hK106 _ _ _ ?_
      refine AW.seq fun K112 hK112 => ?_
      refine AW.seqR mixed [] [none, none, none, some (19, false), some (19, false), none] (by kernel_rfl) fun G113 R113 hG113 hR113 => ?_
      by_cases h3 : v2 < 0
      · replace hF := ite_t h3 hF
        have h3_ := h3
        try simp at h3_
        try simp [h1_, h1__, h1q, h2, h2_, h3, h3_]
        repeat' apply And.intro
        any_goals (first | exact hG113 _ (by kernel_rfl) | refine hR113 _ _ _ ?_ | omega | (unfold maxLen; omega) | (simp [h1_, h1__, h1q, h2, h2_, h3, h3_]; done) | (simp [h1_, h1__, h1q, h2, h2_, h3, h3_]; omega))
        refine AW.wk [(0, AV.str v0), (1, AV.lst false false (List.map (AV.int .i64) v1)), (2, AV.int .i64 v2), (22, AV.bool true)] [] 0 (by simp [h1_, h1__, h1q, h2, h2_, h3, h3_]) (by simp [h1_, h1__, h1q, h2, h2_, h3, h3_]) (by simp) ?_
        refine AW.condT (by decide) (by simp [h1_, h1__, h1q, h2, h2_, h3, h3_]) ?_
        refine AW.seqR mixed [] [none, none] (by kernel_rfl) fun G114 R114 hG114 hR114 => ?_
        try simp [h1_, h1__, h1q, h2, h2_, h3, h3_]
        repeat' apply And.intro
        any_goals (first | exact hG114 _ (by kernel_rfl) | refine hR114 _ _ _ ?_ | omega | (unfold maxLen; omega) | (simp [h1_, h1__, h1q, h2, h2_, h3, h3_]; done) | (simp [h1_, h1__, h1q, h2, h2_, h3, h3_]; omega))
        refine AW.wk [(6, AV.lst true true (List.map (AV.int .i64) ([] : List Int))), (7, AV.int .i64 2)] [] 0 (by simp [h1_, h1__, h1q, h2, h2_, h3, h3_]) (by simp [h1_, h1__, h1q, h2, h2_, h3, h3_]) (by simp) ?_
        refine AW.own' 6 1 true (by simp [h1_, h1__, h1q, h2, h2_, h3, h3_]) (by decide) ?_
        simp only [Option.some.injEq, Prod.mk.injEq] at hF
        obtain ⟨e0, e1⟩ := hF
        subst e0 e1
        refine AW.ret (hQ _ _ _ ?_ (matchO_0 ?_)).1
        · simp [Try.f42, h1_, h1__, h1q, h2, h2_, h3, h3_]
        · simp [h1_, h1__, h1q, h2, h2_, h3, h3_]
      · replace hF := ite_f h3 hF
        have h3_ := h3
        try simp at h3_
        try simp [h1_, h1__, h1q, h2, h2_, h3, h3_]
        repeat' apply And.intro
        any_goals (first | exact hG113 _ (by kernel_rfl) | refine hR113 _ _ _ ?_ | omega | (unfold maxLen; omega) | (simp [h1_, h1__, h1q, h2, h2_, h3, h3_]; done) | (simp [h1_, h1__, h1q, h2, h2_, h3, h3_]; omega))
        refine AW.wk [(0, AV.str v0), (1, AV.lst false false (List.map (AV.int .i64) v1)), (2, AV.int .i64 v2), (22, AV.bool (decide (64 < v2)))] [] 0 (by simp [h1_, h1__, h1q, h2, h2_, h3, h3_]) (by simp [h1_, h1__, h1q, h2, h2_, h3, h3_]) (by simp) ?_
        by_cases h4 : 64 < v2
        · replace hF := ite_t h4 hF
          have h4_ := h4
          try simp at h4_
          refine AW.condT (by decide) (by first | (simp [h1_, h1__, h1q, h2, h2_, h3, h3_, h4, h4_]; done) | (simp [h1_, h1__, h1q, h2, h2_, h3, h3_, h4, h4_]; omega)) ?_
          refine AW.seqR mixed [] [none, none] (by kernel_rfl) fun G115 R115 hG115 hR115 => ?_
          try simp [h1_, h1__, h1q, h2, h2_, h3, h3_, h4, h4_]
          repeat' apply And.intro
          any_goals (first | exact hG115 _ (by kernel_rfl) | refine hR115 _ _ _ ?_ | omega | (unfold maxLen; omega) | (simp [h1_, h1__, h1q, h2, h2_, h3, h3_, h4, h4_]; done) | (simp [h1_, h1__, h1q, h2, h2_, h3, h3_, h4, h4_]; omega))
          refine AW.wk [(6, AV.lst true true (List.map (AV.int .i64) ([] : List Int))), (7, AV.int .i64 2)] [] 0 (by simp [h1_, h1__, h1q, h2, h2_, h3, h3_, h4, h4_]) (by simp [h1_, h1__, h1q, h2, h2_, h3, h3_, h4, h4_]) (by simp) ?_
          refine AW.own' 6 1 true (by simp [h1_, h1__, h1q, h2, h2_, h3, h3_, h4, h4_]) (by decide) ?_
          simp only [Option.some.injEq, Prod.mk.injEq] at hF
          obtain ⟨e0, e1⟩ := hF
          subst e0 e1
          refine AW.ret (hQ _ _ _ ?_ (matchO_0 ?_)).1
          · simp [Try.f42, h1_, h1__, h1q, h2, h2_, h3, h3_, h4, h4_]
          · simp [h1_, h1__, h1q, h2, h2_, h3, h3_, h4, h4_]
        · replace hF := ite_f h4 hF
          have h4_ := h4
          try simp at h4_
          refine AW.condF (by decide) (by first | (simp [h1_, h1__, h1q, h2, h2_, h3, h3_, h4, h4_]; done) | (simp [h1_, h1__, h1q, h2, h2_, h3, h3_, h4, h4_]; omega)) ?_
          refine AW.skip ?_
          refine hK112 _ _ _ ?_
          refine AW.seqR mixed [] [none] (by kernel_rfl) fun G116 R116 hG116 hR116 => ?_
          try simp [h1_, h1__, h1q, h2, h2_, h3, h3_, h4, h4_]
          repeat' apply And.intro
          any_goals (first | exact hG116 _ (by kernel_rfl) | refine hR116 _ _ _ ?_ | omega | (unfold maxLen; omega) | (simp [h1_, h1__, h1q, h2, h2_, h3, h3_, h4, h4_]; done) | (simp [h1_, h1__, h1q, h2, h2_, h3, h3_, h4, h4_]; omega))
          refine AW.wk [(0, AV.str v0), (1, AV.lst false false (List.map (AV.int .i64) v1)), (2, AV.int .i64 v2), (8, AV.lst true true (List.map (AV.int .i64) ([] : List Int)))] [] 0 (by simp [h1_, h1__, h1q, h2, h2_, h3, h3_, h4, h4_]) (by simp [h1_, h1__, h1q, h2, h2_, h3, h3_, h4, h4_]) (by simp) ?_
          refine AW.seq fun K155 hK155 => ?_
          refine AW.seqR mixed [] [none] (by kernel_rfl) fun G156 R156 hG156 hR156 => ?_
          try simp [h1_, h1__, h1q, h2, h2_, h3, h3_, h4, h4_]
          repeat' apply And.intro
          any_goals (first | exact hG156 _ (by kernel_rfl) | refine hR156 _ _ _ ?_ | omega | (unfold maxLen; omega) | (simp [h1_, h1__, h1q, h2, h2_, h3, h3_, h4, h4_]; done) | (simp [h1_, h1__, h1q, h2, h2_, h3, h3_, h4, h4_]; omega))
          refine AW.wk [(0, AV.str v0), (1, AV.lst false false (List.map (AV.int .i64) v1)), (2, AV.int .i64 v2), (8, AV.lst true true (List.map (AV.int .i64) ([] : List Int))), (9, AV.int .i64 0)] [] 0 (by simp [h1_, h1__, h1q, h2, h2_, h3, h3_, h4, h4_]) (by simp [h1_, h1__, h1q, h2, h2_, h3, h3_, h4, h4_]) (by simp) ?_
          refine AW.block ?_
          refine AW.own' 8 1 true (by simp [h1_, h1__, h1q, h2, h2_, h3, h3_, h4, h4_]) (by decide) ?_
          refine AW.loopF (α := (Int × (List Int))) (fun n (v5, v6) => ref25_Numbers.L1 k v0 v1 v2 n v5 v6 = some (v3, v4)) (fun (v5, v6) => [(0, AV.str v0), (1, AV.lst false false (List.map (AV.int .i64) v1)), (2, AV.int .i64 v2), (8, AV.slc 0 0 1 v6.length false), (9, AV.int .i64 v5)]) (fun (v5, v6) => [(0, .grow (List.map (AV.int .i64) v6))]) 1 k ((0, ([] : List Int))) hF (by simp [h1_, h1__, h1q, h2, h2_, h3, h3_, h4, h4_]) (by simp [h1_, h1__, h1q, h2, h2_, h3, h3_, h4, h4_]) (by simp) ?_
          rintro (_|n1) ⟨v5, v6⟩ hF K184 hK184
          · try dsimp only at hF
            rw [ref25_Numbers.L1] at hF; cases hF
          try dsimp only at hF
          rw [ref25_Numbers.L1] at hF
          refine AW.seq fun K186 hK186 => ?_
          refine AW.seqR mixed [] [none, none, none] (by kernel_rfl) fun G187 R187 hG187 hR187 => ?_
          try simp [h1_, h1__, h1q, h2, h2_, h3, h3_, h4, h4_]
          repeat' apply And.intro
          any_goals (first | exact hG187 _ (by kernel_rfl) | refine hR187 _ _ _ ?_ | omega | (unfold maxLen; omega) | (simp [h1_, h1__, h1q, h2, h2_, h3, h3_, h4, h4_]; done) | (simp [h1_, h1__, h1q, h2, h2_, h3, h3_, h4, h4_]; omega))
          refine AW.wk [(0, AV.str v0), (1, AV.lst false false (List.map (AV.int .i64) v1)), (2, AV.int .i64 v2), (8, AV.slc 0 0 1 v6.length false), (9, AV.int .i64 v5), (25, AV.bool (decide (v5 < v2)))] [(0, .grow (List.map (AV.int .i64) v6))] 1 (by simp [h1_, h1__, h1q, h2, h2_, h3, h3_, h4, h4_]) (by simp [h1_, h1__, h1q, h2, h2_, h3, h3_, h4, h4_]) (by simp) ?_
          by_cases h5 : v5 < v2
          · replace hF := ite_t h5 hF
            have h5_ := h5
            try simp at h5_
            refine AW.condT (by decide) (by first | (simp [h1_, h1__, h1q, h2, h2_, h3, h3_, h4, h4_, h5, h5_]; done) | (simp [h1_, h1__, h1q, h2, h2_, h3, h3_, h4, h4_, h5, h5_]; omega)) ?_
            refine AW.skip ?_
            refine hK186 _ _ _ ?_
            refine AW.seq fun K190 hK190 => ?_
            refine AW.block ?_
            refine AW.seqR mixed [30] [none, none, none, none, none, none, none, none, none] (by kernel_rfl) fun G191 R191 hG191 hR191 => ?_
            obtain ⟨h6, hF⟩ := chk_elim hF
            have h6_ := h6
            try simp at h6_
            try simp [h1_, h1__, h1q, h2, h2_, h3, h3_, h4, h4_, h5, h5_, h6]
            repeat' apply And.intro
            try any_goals (first | omega | (unfold maxLen; omega) | (simp [h1_, h1__, h1q, h2, h2_, h3, h3_, h4, h4_, h5, h5_, h6]; done))
            obtain ⟨v7, h7, hF⟩ := bnd1_elim hF
            refine aCall_l (w_ref25_list k _ _ _ h7) (by simp) [1] [] [1] rfl (.cons (.same (by simp [h1_, h1__, h1q, h2, h2_, h3, h3_, h4, h4_, h5, h5_, h6])) (.cons (.same (by simp [h1_, h1__, h1q, h2, h2_, h3, h3_, h4, h4_, h5, h5_, h6])) .nil)) (by simp [h1_, h1__, h1q, h2, h2_, h3, h3_, h4, h4_, h5, h5_, h6]) (by decide) (by simp) (by simp) (.inl rfl) (by simp) (by simp) ?_
            try simp [h1_, h1__, h1q, h2, h2_, h3, h3_, h4, h4_, h5, h5_, h6]
            repeat' apply And.intro
            try any_goals (first | omega | (unfold maxLen; omega) | (simp [h1_, h1__, h1q, h2, h2_, h3, h3_, h4, h4_, h5, h5_, h6]; done))
            obtain ⟨v8, h8, hF⟩ := bnd1_elim hF
            refine aCall_l (w_ref25_number k _ _ _ h8) (by simp) [2] [] [2] rfl (.cons (.same (by simp [h1_, h1__, h1q, h2, h2_, h3, h3_, h4, h4_, h5, h5_, h6])) (.cons (.same (by simp [h1_, h1__, h1q, h2, h2_, h3, h3_, h4, h4_, h5, h5_, h6])) .nil)) (by simp [h1_, h1__, h1q, h2, h2_, h3, h3_, h4, h4_, h5, h5_, h6]) (by decide) (by simp) (by simp) (.inl rfl) (by simp) (by simp) ?_
            try simp [h1_, h1__, h1q, h2, h2_, h3, h3_, h4, h4_, h5, h5_, h6]
            repeat' apply And.intro
            try any_goals (first | omega | (unfold maxLen; omega) | (simp [h1_, h1__, h1q, h2, h2_, h3, h3_, h4, h4_, h5, h5_, h6]; done))
            obtain ⟨v9, h9, hF⟩ := bnd1_elim hF
            refine aCall_l (w_ref01_Sum k _ _ h9) (by simp) [] [3] [] rfl (.cons (Coe.l (o := .grow (List.map (AV.int .u8) v8)) (by simp [h1_, h1__, h1q, h2, h2_, h3, h3_, h4, h4_, h5, h5_, h6]) rfl (by simp [h1_, h1__, h1q, h2, h2_, h3, h3_, h4, h4_, h5, h5_, h6]) (by simp [noIdsL]) (by simp [h1_, h1__, h1q, h2, h2_, h3, h3_, h4, h4_, h5, h5_, h6]) (by simp [h1_, h1__, h1q, h2, h2_, h3, h3_, h4, h4_, h5, h5_, h6])) .nil) (by simp [h1_, h1__, h1q, h2, h2_, h3, h3_, h4, h4_, h5, h5_, h6]) (by decide) (by simp) (by simp) (.inr ⟨by simp, by simp⟩) (by simp) (by simp) ?_
            try simp [h1_, h1__, h1q, h2, h2_, h3, h3_, h4, h4_, h5, h5_, h6]
            repeat' apply And.intro
            any_goals (first | exact hG191 _ (by kernel_rfl) | refine hR191 _ _ _ ?_ | omega | (unfold maxLen; omega) | (simp [h1_, h1__, h1q, h2, h2_, h3, h3_, h4, h4_, h5, h5_, h6]; done) | (simp [h1_, h1__, h1q, h2, h2_, h3, h3_, h4, h4_, h5, h5_, h6]; omega))
            refine AW.wk [(0, AV.str v0), (1, AV.lst false false (List.map (AV.int .i64) v1)), (2, AV.int .i64 v2), (8, AV.slc 0 0 1 v6.length false), (9, AV.int .i64 v5), (10, AV.str v9)] [(0, .grow (List.map (AV.int .i64) v6))] 4 (by simp [h1_, h1__, h1q, h2, h2_, h3, h3_, h4, h4_, h5, h5_, h6]) (by simp [h1_, h1__, h1q, h2, h2_, h3, h3_, h4, h4_, h5, h5_, h6]) (by simp) ?_
            refine AW.region mixed [] [none, none, none, none, none, none, none, none, none, none, none, none, none, none, none, none, none, none, none, none, none, none] (by kernel_rfl) fun G192 R192 hG192 hR192 => ?_
            obtain ⟨v10, h10, h11, h12, hF⟩ := idx_elim hF
            have h12_ := get_of h12
            have h11_ := h11
            simp at h11_
            have h10_ := h10
            try simp at h10_
            have h12__ := h12_
            try simp [bI] at h12__
            have h12b := bI_at h12
            try simp at h12b
            obtain ⟨v11, h13, h14, h15, hF⟩ := idx_elim hF
            have h15_ := get_of h15
            have h14_ := h14
            simp at h14_
            have h13_ := h13
            try simp at h13_
            have h15__ := h15_
            try simp [bI] at h15__
            have h15b := bI_at h15
            try simp at h15b
            obtain ⟨v12, h16, h17, h18, hF⟩ := idx_elim hF
            have h18_ := get_of h18
            have h17_ := h17
            simp at h17_
            have h16_ := h16
            try simp at h16_
            have h18__ := h18_
            try simp [bI] at h18__
            have h18b := bI_at h18
            try simp at h18b
            obtain ⟨v13, h19, h20, h21, hF⟩ := idx_elim hF
            have h21_ := get_of h21
            have h20_ := h20
            simp at h20_
            have h19_ := h19
            try simp at h19_
            have h21__ := h21_
            try simp [bI] at h21__
            have h21b := bI_at h21
            try simp at h21b
            obtain ⟨h22, hF⟩ := chk_elim hF
            have h22_ := h22
            try simp at h22_
            try simp [h1_, h1__, h1q, h2, h2_, h3, h3_, h4, h4_, h5, h5_, h6, h10, h10_, h11_, h12, h12_, h12__, h12b, h13, h13_, h14_, h15, h15_, h15__, h15b, h16, h16_, h17_, h18, h18_, h18__, h18b, h19, h19_, h20_, h21, h21_, h21__, h21b, h22]
            repeat' apply And.intro
            any_goals (first | exact hG192 _ (by kernel_rfl) | refine hR192 _ _ _ ?_ | omega | (unfold maxLen; omega) | (simp [h1_, h1__, h1q, h2, h2_, h3, h3_, h4, h4_, h5, h5_, h6, h10, h10_, h11_, h12, h12_, h12__, h12b, h13, h13_, h14_, h15, h15_, h15__, h15b, h16, h16_, h17_, h18, h18_, h18__, h18b, h19, h19_, h20_, h21, h21_, h21__, h21b, h22]; done) | (simp [h1_, h1__, h1q, h2, h2_, h3, h3_, h4, h4_, h5, h5_, h6, h10, h10_, h11_, h12, h12_, h12__, h12b, h13, h13_, h14_, h15, h15_, h15__, h15b, h16, h16_, h17_, h18, h18_, h18__, h18b, h19, h19_, h20_, h21, h21_, h21__, h21b, h22]; omega))
            refine hK190 _ _ _ ?_
            refine AW.wk [(0, AV.str v0), (1, AV.lst false false (List.map (AV.int .i64) v1)), (2, AV.int .i64 v2), (8, AV.slc 4 0 1 ((v6 ++ ([bitsV .or .i64 (bitsV .or .i64 (bitsV .or .i64 (IntKind.wrap .i64 ((IntKind.wrap .i64 v10) * 2 ^ (24))) (IntKind.wrap .i64 ((IntKind.wrap .i64 v11) * 2 ^ (16)))) (IntKind.wrap .i64 ((IntKind.wrap .i64 v12) * 2 ^ (8)))) (IntKind.wrap .i64 v13)] : List Int)).length) false), (9, AV.int .i64 v5)] [(4, .grow (List.map (AV.int .i64) (v6 ++ ([bitsV .or .i64 (bitsV .or .i64 (bitsV .or .i64 (IntKind.wrap .i64 ((IntKind.wrap .i64 v10) * 2 ^ (24))) (IntKind.wrap .i64 ((IntKind.wrap .i64 v11) * 2 ^ (16)))) (IntKind.wrap .i64 ((IntKind.wrap .i64 v12) * 2 ^ (8)))) (IntKind.wrap .i64 v13)] : List Int))))] 5 (by simp [h1_, h1__, h1q, h2, h2_, h3, h3_, h4, h4_, h5, h5_, h6, h10, h10_, h11_, h12, h12_, h12__, h12b, h13, h13_, h14_, h15, h15_, h15__, h15b, h16, h16_, h17_, h18, h18_, h18__, h18b, h19, h19_, h20_, h21, h21_, h21__, h21b, h22] <;> omega) (by simp [h1_, h1__, h1q, h2, h2_, h3, h3_, h4, h4_, h5, h5_, h6, h10, h10_, h11_, h12, h12_, h12__, h12b, h13, h13_, h14_, h15, h15_, h15__, h15b, h16, h16_, h17_, h18, h18_, h18__, h18b, h19, h19_, h20_, h21, h21_, h21__, h21b, h22]) (by simp) ?_
            refine AW.region mixed [] [none, none, none] (by kernel_rfl) fun G193 R193 hG193 hR193 => ?_
            try simp [h1_, h1__, h1q, h2, h2_, h3, h3_, h4, h4_, h5, h5_, h6, h10, h10_, h11_, h12, h12_, h12__, h12b, h13, h13_, h14_, h15, h15_, h15__, h15b, h16, h16_, h17_, h18, h18_, h18__, h18b, h19, h19_, h20_, h21, h21_, h21__, h21b, h22]
            repeat' apply And.intro
            any_goals (first | exact hG193 _ (by kernel_rfl) | refine hR193 _ _ _ ?_ | omega | (unfold maxLen; omega) | (simp [h1_, h1__, h1q, h2, h2_, h3, h3_, h4, h4_, h5, h5_, h6, h10, h10_, h11_, h12, h12_, h12__, h12b, h13, h13_, h14_, h15, h15_, h15__, h15b, h16, h16_, h17_, h18, h18_, h18__, h18b, h19, h19_, h20_, h21, h21_, h21__, h21b, h22]; done) | (simp [h1_, h1__, h1q, h2, h2_, h3, h3_, h4, h4_, h5, h5_, h6, h10, h10_, h11_, h12, h12_, h12__, h12b, h13, h13_, h14_, h15, h15_, h15__, h15b, h16, h16_, h17_, h18, h18_, h18__, h18b, h19, h19_, h20_, h21, h21_, h21__, h21b, h22]; omega))
            refine hK184 _ _ _ ?_
            refine Can.weak [(0, AV.str v0), (1, AV.lst false false (List.map (AV.int .i64) v1)), (2, AV.int .i64 v2), (8, AV.slc 4 0 1 ((v6 ++ ([bitsV .or .i64 (bitsV .or .i64 (bitsV .or .i64 (IntKind.wrap .i64 ((IntKind.wrap .i64 v10) * 2 ^ (24))) (IntKind.wrap .i64 ((IntKind.wrap .i64 v11) * 2 ^ (16)))) (IntKind.wrap .i64 ((IntKind.wrap .i64 v12) * 2 ^ (8)))) (IntKind.wrap .i64 v13)] : List Int)).length) false), (9, AV.int .i64 (IntKind.wrap .i64 (v5 + 1)))] [(4, .grow (List.map (AV.int .i64) (v6 ++ ([bitsV .or .i64 (bitsV .or .i64 (bitsV .or .i64 (IntKind.wrap .i64 ((IntKind.wrap .i64 v10) * 2 ^ (24))) (IntKind.wrap .i64 ((IntKind.wrap .i64 v11) * 2 ^ (16)))) (IntKind.wrap .i64 ((IntKind.wrap .i64 v12) * 2 ^ (8)))) (IntKind.wrap .i64 v13)] : List Int))))] 5 (by simp [h1_, h1__, h1q, h2, h2_, h3, h3_, h4, h4_, h5, h5_, h6, h10, h10_, h11_, h12, h12_, h12__, h12b, h13, h13_, h14_, h15, h15_, h15__, h15b, h16, h16_, h17_, h18, h18_, h18__, h18b, h19, h19_, h20_, h21, h21_, h21__, h21b, h22] <;> omega) (by simp [h1_, h1__, h1q, h2, h2_, h3, h3_, h4, h4_, h5, h5_, h6, h10, h10_, h11_, h12, h12_, h12__, h12b, h13, h13_, h14_, h15, h15_, h15__, h15b, h16, h16_, h17_, h18, h18_, h18__, h18b, h19, h19_, h20_, h21, h21_, h21__, h21b, h22]) (by simp) ?_
            refine Can.ren (m := 0) h0 [(0, 4)] [(0, AV.str v0), (1, AV.lst false false (List.map (AV.int .i64) v1)), (2, AV.int .i64 v2), (8, AV.slc 0 0 1 ((v6 ++ ([bitsV .or .i64 (bitsV .or .i64 (bitsV .or .i64 (IntKind.wrap .i64 ((IntKind.wrap .i64 v10) * 2 ^ (24))) (IntKind.wrap .i64 ((IntKind.wrap .i64 v11) * 2 ^ (16)))) (IntKind.wrap .i64 ((IntKind.wrap .i64 v12) * 2 ^ (8)))) (IntKind.wrap .i64 v13)] : List Int)).length) false), (9, AV.int .i64 (IntKind.wrap .i64 (v5 + 1)))] [(0, .grow (List.map (AV.int .i64) (v6 ++ ([bitsV .or .i64 (bitsV .or .i64 (bitsV .or .i64 (IntKind.wrap .i64 ((IntKind.wrap .i64 v10) * 2 ^ (24))) (IntKind.wrap .i64 ((IntKind.wrap .i64 v11) * 2 ^ (16)))) (IntKind.wrap .i64 ((IntKind.wrap .i64 v12) * 2 ^ (8)))) (IntKind.wrap .i64 v13)] : List Int))))] 1 (by decide) (by decide) (by decide) rfl (by simp [h1_, h1__, h1q, h2, h2_, h3, h3_, h4, h4_, h5, h5_, h6, h10, h10_, h11_, h12, h12_, h12__, h12b, h13, h13_, h14_, h15, h15_, h15__, h15b, h16, h16_, h17_, h18, h18_, h18__, h18b, h19, h19_, h20_, h21, h21_, h21__, h21b, h22]) (by simp [h1_, h1__, h1q, h2, h2_, h3, h3_, h4, h4_, h5, h5_, h6, h10, h10_, h11_, h12, h12_, h12__, h12b, h13, h13_, h14_, h15, h15_, h15__, h15b, h16, h16_, h17_, h18, h18_, h18__, h18b, h19, h19_, h20_, h21, h21_, h21__, h21b, h22]) ?_
            exact Can.next (k' := n1) ((IntKind.wrap .i64 (v5 + 1), v6 ++ ([bitsV .or .i64 (bitsV .or .i64 (bitsV .or .i64 (IntKind.wrap .i64 ((IntKind.wrap .i64 v10) * 2 ^ (24))) (IntKind.wrap .i64 ((IntKind.wrap .i64 v11) * 2 ^ (16)))) (IntKind.wrap .i64 ((IntKind.wrap .i64 v12) * 2 ^ (8)))) (IntKind.wrap .i64 v13)] : List Int))) (by omega) hF (by simp [h1_, h1__, h1q, h2, h2_, h3, h3_, h4, h4_, h5, h5_, h6, h10, h10_, h11_, h12, h12_, h12__, h12b, h13, h13_, h14_, h15, h15_, h15__, h15b, h16, h16_, h17_, h18, h18_, h18__, h18b, h19, h19_, h20_, h21, h21_, h21__, h21b, h22]) (by simp [h1_, h1__, h1q, h2, h2_, h3, h3_, h4, h4_, h5, h5_, h6, h10, h10_, h11_, h12, h12_, h12__, h12b, h13, h13_, h14_, h15, h15_, h15__, h15b, h16, h16_, h17_, h18, h18_, h18__, h18b, h19, h19_, h20_, h21, h21_, h21__, h21b, h22]) (by simp)
          · replace hF := ite_f h5 hF
            have h5_ := h5
            try simp at h5_
            refine AW.condF (by decide) (by first | (simp [h1_, h1__, h1q, h2, h2_, h3, h3_, h4, h4_, h5, h5_]; done) | (simp [h1_, h1__, h1q, h2, h2_, h3, h3_, h4, h4_, h5, h5_]; omega)) ?_
            refine AW.exit ?_
            try simp
            refine hK155 _ _ _ ?_
            refine AW.seqR mixed [] [none, none, none] (by kernel_rfl) fun G194 R194 hG194 hR194 => ?_
            try simp [h1_, h1__, h1q, h2, h2_, h3, h3_, h4, h4_, h5, h5_]
            repeat' apply And.intro
            any_goals (first | exact hG194 _ (by kernel_rfl) | refine hR194 _ _ _ ?_ | omega | (unfold maxLen; omega) | (simp [h1_, h1__, h1q, h2, h2_, h3, h3_, h4, h4_, h5, h5_]; done) | (simp [h1_, h1__, h1q, h2, h2_, h3, h3_, h4, h4_, h5, h5_]; omega))
            refine AW.wk [(6, AV.slc 0 0 1 v6.length false), (7, AV.int .i64 0)] [(0, .grow (List.map (AV.int .i64) v6))] 1 (by simp [h1_, h1__, h1q, h2, h2_, h3, h3_, h4, h4_, h5, h5_]) (by simp [h1_, h1__, h1q, h2, h2_, h3, h3_, h4, h4_, h5, h5_]) (by simp) ?_
            simp only [Option.some.injEq, Prod.mk.injEq] at hF
            obtain ⟨e0, e1⟩ := hF
            subst e0 e1
            refine AW.ret (hQ _ _ _ ?_ (matchO_0 ?_)).1
            · simp [Try.f42, h1_, h1__, h1q, h2, h2_, h3, h3_, h4, h4_, h5, h5_]
            · simp [h1_, h1__, h1q, h2, h2_, h3, h3_, h4, h4_, h5, h5_]
end Go.TF
