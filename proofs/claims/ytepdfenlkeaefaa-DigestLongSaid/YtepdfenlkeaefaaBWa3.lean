/- Walks: the Go text computes the Lean functions (printed by a program of our own). -/
import Derived.Test.YtepdfenlkeaefaaBPu
import Derived.Test.YtepdfenlkeaefaaBAbsT
import Derived.Test.YtepdfenlkeaefaaBWa0
import Derived.Test.YtepdfenlkeaefaaBWa1
import Derived.Test.YtepdfenlkeaefaaBWa2
set_option linter.unusedVariables false
set_option linter.unusedSimpArgs false
set_option maxRecDepth 100000
namespace Go.TF
open Go Go.Abs Go.Proofs Go.Proofs.YtepdfenlkeaefaaBT
set_option maxHeartbeats 4000000 in
theorem w_ref01_Sum (k : Nat) (v0 : (List Int)) (v1 : ByteArray) (hF : ref01_Sum k v0 = some v1) :
    FCall Try.prog 15 [AV.lst false false (List.map (AV.int .u8) v0)] [] (AV.str v1) [] := by
  unfold ref01_Sum at hF
  refine FCall.enter Try.func15 rfl (by simp) (by decide) (by simp) (by simp) (by simp) (by simp) (by simp) ?_
  intro c0 w0 Q h0 hQ
  refine AW.wk [(0, AV.lst false false (List.map (AV.int .u8) v0))] [] 0 (by simp) (by simp) (by simp) ?_
  refine AW.seqR mixed [] [none] (by kernel_rfl) fun G226 R226 hG226 hR226 => ?_
  try simp
  repeat' apply And.intro
  any_goals (first | exact hG226 _ (by kernel_rfl) | refine hR226 _ _ _ ?_ | omega | (unfold maxLen; omega) | (simp; done) | (simp; omega))
  refine AW.wk [(0, AV.lst false false (List.map (AV.int .u8) v0))] [] 0 (by simp) (by simp) (by simp) ?_
  refine AW.seqR mixed [] [none, none] (by kernel_rfl) fun G227 R227 hG227 hR227 => ?_
  try simp
  repeat' apply And.intro
  any_goals (first | exact hG227 _ (by kernel_rfl) | refine hR227 _ _ _ ?_ | omega | (unfold maxLen; omega) | (simp; done) | (simp; omega))
  refine AW.wk [(0, AV.lst false false (List.map (AV.int .u8) v0)), (3, AV.lst false true (List.map (AV.int .u32) ([1779033703, 3144134277, 1013904242, 2773480762, 1359893119, 2600822924, 528734635, 1541459225] : List Int)))] [] 0 (by simp) (by simp) (by simp) ?_
  refine AW.seqR mixed [13] [none, none, none, none, none] (by kernel_rfl) fun G228 R228 hG228 hR228 => ?_
  obtain ⟨h1, hF⟩ := chk_elim hF
  have h1_ := h1
  try simp at h1_
  obtain ⟨h2, hF⟩ := chk_elim hF
  have h2_ := h2
  try simp at h2_
  try simp [h1, h2]
  repeat' apply And.intro
  any_goals (first | exact hG228 _ (by kernel_rfl) | refine hR228 _ _ _ ?_ | omega | (unfold maxLen; omega) | (simp [h1, h2]; done) | (simp [h1, h2]; omega))
  refine AW.wk [(0, AV.lst false false (List.map (AV.int .u8) v0)), (3, AV.lst false true (List.map (AV.int .u32) ([1779033703, 3144134277, 1013904242, 2773480762, 1359893119, 2600822924, 528734635, 1541459225] : List Int))), (4, AV.slc 1 0 1 ((v0 ++ ([128] : List Int)).length) false)] [(1, .grow (List.map (AV.int .u8) (v0 ++ ([128] : List Int))))] 2 (by simp [h1, h2]) (by simp [h1, h2]) (by simp) ?_
  refine AW.seq fun K246 hK246 => ?_
  refine AW.block ?_
  refine AW.rnm (m := 0) h0 [(0, 1)] [(0, AV.lst false false (List.map (AV.int .u8) v0)), (3, AV.lst false true (List.map (AV.int .u32) ([1779033703, 3144134277, 1013904242, 2773480762, 1359893119, 2600822924, 528734635, 1541459225] : List Int))), (4, AV.slc 0 0 1 ((v0 ++ ([128] : List Int)).length) false)] [(0, .grow (List.map (AV.int .u8) (v0 ++ ([128] : List Int))))] 1 (by decide) (by decide) (by decide) rfl (by simp [h1, h2]) (by simp [h1, h2]) ?_
  refine AW.loopF (α := (List Int)) (fun n v2 => ref01_Sum.L1 k v0 n v2 = some v1) (fun v2 => [(0, AV.lst false false (List.map (AV.int .u8) v0)), (3, AV.lst false true (List.map (AV.int .u32) ([1779033703, 3144134277, 1013904242, 2773480762, 1359893119, 2600822924, 528734635, 1541459225] : List Int))), (4, AV.slc 0 0 1 v2.length false)]) (fun v2 => [(0, .grow (List.map (AV.int .u8) v2))]) 1 k (v0 ++ ([128] : List Int)) hF (by simp [h1, h2]) (by simp [h1, h2]) (by simp) ?_
  rintro (_|n1) v2 hF K259 hK259
  · try dsimp only at hF
    rw [ref01_Sum.L1] at hF; cases hF
  try dsimp only at hF
  rw [ref01_Sum.L1] at hF
  refine AW.seq fun K261 hK261 => ?_
  refine AW.seqR mixed [] [none, none, none, none] (by kernel_rfl) fun G262 R262 hG262 hR262 => ?_
  try simp [h1, h2]
  repeat' apply And.intro
  any_goals (first | exact hG262 _ (by kernel_rfl) | refine hR262 _ _ _ ?_ | omega | (unfold maxLen; omega) | (simp [h1, h2]; done) | (simp [h1, h2]; omega))
  refine AW.wk [(0, AV.lst false false (List.map (AV.int .u8) v0)), (3, AV.lst false true (List.map (AV.int .u32) ([1779033703, 3144134277, 1013904242, 2773480762, 1359893119, 2600822924, 528734635, 1541459225] : List Int))), (4, AV.slc 0 0 1 v2.length false), (19, AV.bool ((Int.tmod (v2.length : Int) 64) != 56))] [(0, .grow (List.map (AV.int .u8) v2))] 1 (by simp [h1, h2]) (by simp [h1, h2]) (by simp) ?_
  by_cases h3 : (Int.tmod (v2.length : Int) 64) ≠ 56
  · replace hF := ite_t h3 hF
    have h3_ := eqb_f h3
    have h3__ := neb_t h3
    refine AW.condT (by decide) (by first | (simp [h1, h2, h3, h3_, h3__]; done) | (simp [h1, h2, h3, h3_, h3__]; omega)) ?_
    refine AW.skip ?_
    refine hK261 _ _ _ ?_
    refine AW.block ?_
    refine AW.region mixed [] [none, none, none, none] (by kernel_rfl) fun G263 R263 hG263 hR263 => ?_
    obtain ⟨h4, hF⟩ := chk_elim hF
    have h4_ := h4
    try simp at h4_
    try simp [h1, h2, h3, h3_, h3__, h4]
    repeat' apply And.intro
    any_goals (first | exact hG263 _ (by kernel_rfl) | refine hR263 _ _ _ ?_ | omega | (unfold maxLen; omega) | (simp [h1, h2, h3, h3_, h3__, h4]; done) | (simp [h1, h2, h3, h3_, h3__, h4]; omega))
    refine hK259 _ _ _ ?_
    refine Can.weak [(0, AV.lst false false (List.map (AV.int .u8) v0)), (3, AV.lst false true (List.map (AV.int .u32) ([1779033703, 3144134277, 1013904242, 2773480762, 1359893119, 2600822924, 528734635, 1541459225] : List Int))), (4, AV.slc 1 0 1 ((v2 ++ ([0] : List Int)).length) false)] [(1, .grow (List.map (AV.int .u8) (v2 ++ ([0] : List Int))))] 2 (by simp [h1, h2, h3, h3_, h3__, h4]) (by simp [h1, h2, h3, h3_, h3__, h4]) (by simp) ?_
    refine Can.ren (m := 0) h0 [(0, 1)] [(0, AV.lst false false (List.map (AV.int .u8) v0)), (3, AV.lst false true (List.map (AV.int .u32) ([1779033703, 3144134277, 1013904242, 2773480762, 1359893119, 2600822924, 528734635, 1541459225] : List Int))), (4, AV.slc 0 0 1 ((v2 ++ ([0] : List Int)).length) false)] [(0, .grow (List.map (AV.int .u8) (v2 ++ ([0] : List Int))))] 1 (by decide) (by decide) (by decide) rfl (by simp [h1, h2, h3, h3_, h3__, h4]) (by simp [h1, h2, h3, h3_, h3__, h4]) ?_
    exact Can.next (k' := n1) (v2 ++ ([0] : List Int)) (by omega) hF (by simp [h1, h2, h3, h3_, h3__, h4]) (by simp [h1, h2, h3, h3_, h3__, h4]) (by simp)
  · replace hF := ite_f h3 hF
    have h3q : (Int.tmod (v2.length : Int) 64) = 56 := Classical.not_not.1 h3
    have h3_ := eqb_t h3q
    have h3__ := neb_f h3q
    refine AW.condF (by decide) (by first | (simp [h1, h2, h3_, h3__, h3q]; done) | (simp [h1, h2, h3_, h3__, h3q]; omega)) ?_
    refine AW.exit ?_
    try simp
    refine hK246 _ _ _ ?_
    refine AW.seqR mixed [] [none, none, none, none, none] (by kernel_rfl) fun G264 R264 hG264 hR264 => ?_
    try simp [h1, h2, h3_, h3__, h3q]
    repeat' apply And.intro
    any_goals (first | exact hG264 _ (by kernel_rfl) | refine hR264 _ _ _ ?_ | omega | (unfold maxLen; omega) | (simp [h1, h2, h3_, h3__, h3q]; done) | (simp [h1, h2, h3_, h3__, h3q]; omega))
    refine AW.wk [(3, AV.lst false true (List.map (AV.int .u32) ([1779033703, 3144134277, 1013904242, 2773480762, 1359893119, 2600822924, 528734635, 1541459225] : List Int))), (4, AV.slc 0 0 1 v2.length false), (5, AV.int .u64 (IntKind.wrap .u64 (IntKind.wrap .u64 (v0.length : Int) * 8)))] [(0, .grow (List.map (AV.int .u8) v2))] 1 (by simp [h1, h2, h3_, h3__, h3q]) (by simp [h1, h2, h3_, h3__, h3q]) (by simp) ?_
    refine AW.seq fun K295 hK295 => ?_
    refine AW.seqR mixed [] [none] (by kernel_rfl) fun G296 R296 hG296 hR296 => ?_
    try simp [h1, h2, h3_, h3__, h3q]
    repeat' apply And.intro
    any_goals (first | exact hG296 _ (by kernel_rfl) | refine hR296 _ _ _ ?_ | omega | (unfold maxLen; omega) | (simp [h1, h2, h3_, h3__, h3q]; done) | (simp [h1, h2, h3_, h3__, h3q]; omega))
    refine AW.wk [(3, AV.lst false true (List.map (AV.int .u32) ([1779033703, 3144134277, 1013904242, 2773480762, 1359893119, 2600822924, 528734635, 1541459225] : List Int))), (4, AV.slc 0 0 1 v2.length false), (5, AV.int .u64 (IntKind.wrap .u64 (IntKind.wrap .u64 (v0.length : Int) * 8))), (6, AV.int .i64 7)] [(0, .grow (List.map (AV.int .u8) v2))] 1 (by simp [h1, h2, h3_, h3__, h3q]) (by simp [h1, h2, h3_, h3__, h3q]) (by simp) ?_
    refine AW.block ?_
    refine AW.loopF (α := (Int × (List Int))) (fun n (v3, v4) => ref01_Sum.L2 k v0 n v3 v4 = some v1) (fun (v3, v4) => [(3, AV.lst false true (List.map (AV.int .u32) ([1779033703, 3144134277, 1013904242, 2773480762, 1359893119, 2600822924, 528734635, 1541459225] : List Int))), (4, AV.slc 0 0 1 v4.length false), (5, AV.int .u64 (IntKind.wrap .u64 (IntKind.wrap .u64 (v0.length : Int) * 8))), (6, AV.int .i64 v3)]) (fun (v3, v4) => [(0, .grow (List.map (AV.int .u8) v4))]) 1 k ((7, v2)) hF (by simp [h1, h2, h3_, h3__, h3q]) (by simp [h1, h2, h3_, h3__, h3q]) (by simp) ?_
    rintro (_|n2) ⟨v3, v4⟩ hF K318 hK318
    · try dsimp only at hF
      rw [ref01_Sum.L2] at hF; cases hF
    try dsimp only at hF
    rw [ref01_Sum.L2] at hF
    refine AW.seq fun K320 hK320 => ?_
    refine AW.seqR mixed [] [none, none] (by kernel_rfl) fun G321 R321 hG321 hR321 => ?_
    try simp [h1, h2, h3_, h3__, h3q]
    repeat' apply And.intro
    any_goals (first | exact hG321 _ (by kernel_rfl) | refine hR321 _ _ _ ?_ | omega | (unfold maxLen; omega) | (simp [h1, h2, h3_, h3__, h3q]; done) | (simp [h1, h2, h3_, h3__, h3q]; omega))
    refine AW.wk [(3, AV.lst false true (List.map (AV.int .u32) ([1779033703, 3144134277, 1013904242, 2773480762, 1359893119, 2600822924, 528734635, 1541459225] : List Int))), (4, AV.slc 0 0 1 v4.length false), (5, AV.int .u64 (IntKind.wrap .u64 (IntKind.wrap .u64 (v0.length : Int) * 8))), (6, AV.int .i64 v3), (28, AV.bool (decide (0 ≤ v3)))] [(0, .grow (List.map (AV.int .u8) v4))] 1 (by simp [h1, h2, h3_, h3__, h3q]) (by simp [h1, h2, h3_, h3__, h3q]) (by simp) ?_
    by_cases h5 : 0 ≤ v3
    · replace hF := ite_t h5 hF
      have h5_ := h5
      try simp at h5_
      refine AW.condT (by decide) (by first | (simp [h1, h2, h3_, h3__, h3q, h5, h5_]; done) | (simp [h1, h2, h3_, h3__, h3q, h5, h5_]; omega)) ?_
      refine AW.skip ?_
      refine hK320 _ _ _ ?_
      refine AW.seq fun K323 hK323 => ?_
      refine AW.block ?_
      refine AW.region mixed [] [none, none, none, none, none, none, none, none, none, none] (by kernel_rfl) fun G324 R324 hG324 hR324 => ?_
      obtain ⟨h6, hF⟩ := chk_elim hF
      obtain ⟨h7, hF⟩ := chk_elim hF
      have h7_ := h7
      try simp at h7_
      try simp [h1, h2, h3_, h3__, h3q, h5, h5_, h6, h7]
      repeat' apply And.intro
      any_goals (first | exact hG324 _ (by kernel_rfl) | refine hR324 _ _ _ ?_ | omega | (unfold maxLen; omega) | (simp [h1, h2, h3_, h3__, h3q, h5, h5_, h6, h7]; done) | (simp [h1, h2, h3_, h3__, h3q, h5, h5_, h6, h7]; omega))
      refine hK323 _ _ _ ?_
      refine AW.wk [(3, AV.lst false true (List.map (AV.int .u32) ([1779033703, 3144134277, 1013904242, 2773480762, 1359893119, 2600822924, 528734635, 1541459225] : List Int))), (4, AV.slc 1 0 1 ((v4 ++ ([IntKind.wrap .u8 (Int.fdiv (IntKind.wrap .u64 (IntKind.wrap .u64 (v0.length : Int) * 8)) (2 ^ (min ((IntKind.wrap .u64 (IntKind.wrap .i64 (8 * v3))).toNat) 64)))] : List Int)).length) false), (5, AV.int .u64 (IntKind.wrap .u64 (IntKind.wrap .u64 (v0.length : Int) * 8))), (6, AV.int .i64 v3)] [(1, .grow (List.map (AV.int .u8) (v4 ++ ([IntKind.wrap .u8 (Int.fdiv (IntKind.wrap .u64 (IntKind.wrap .u64 (v0.length : Int) * 8)) (2 ^ (min ((IntKind.wrap .u64 (IntKind.wrap .i64 (8 * v3))).toNat) 64)))] : List Int))))] 2 (by simp [h1, h2, h3_, h3__, h3q, h5, h5_, h6, h7]) (by simp [h1, h2, h3_, h3__, h3q, h5, h5_, h6, h7]) (by simp) ?_
      refine AW.region mixed [] [none, none, none] (by kernel_rfl) fun G325 R325 hG325 hR325 => ?_
      try simp [h1, h2, h3_, h3__, h3q, h5, h5_, h6, h7]
      repeat' apply And.intro
      any_goals (first | exact hG325 _ (by kernel_rfl) | refine hR325 _ _ _ ?_ | omega | (unfold maxLen; omega) | (simp [h1, h2, h3_, h3__, h3q, h5, h5_, h6, h7]; done) | (simp [h1, h2, h3_, h3__, h3q, h5, h5_, h6, h7]; omega))
      refine hK318 _ _ _ ?_
      refine Can.weak [(3, AV.lst false true (List.map (AV.int .u32) ([1779033703, 3144134277, 1013904242, 2773480762, 1359893119, 2600822924, 528734635, 1541459225] : List Int))), (4, AV.slc 1 0 1 ((v4 ++ ([IntKind.wrap .u8 (Int.fdiv (IntKind.wrap .u64 (IntKind.wrap .u64 (v0.length : Int) * 8)) (2 ^ (min ((IntKind.wrap .u64 (IntKind.wrap .i64 (8 * v3))).toNat) 64)))] : List Int)).length) false), (5, AV.int .u64 (IntKind.wrap .u64 (IntKind.wrap .u64 (v0.length : Int) * 8))), (6, AV.int .i64 (IntKind.wrap .i64 (v3 - 1)))] [(1, .grow (List.map (AV.int .u8) (v4 ++ ([IntKind.wrap .u8 (Int.fdiv (IntKind.wrap .u64 (IntKind.wrap .u64 (v0.length : Int) * 8)) (2 ^ (min ((IntKind.wrap .u64 (IntKind.wrap .i64 (8 * v3))).toNat) 64)))] : List Int))))] 2 (by simp [h1, h2, h3_, h3__, h3q, h5, h5_, h6, h7]) (by simp [h1, h2, h3_, h3__, h3q, h5, h5_, h6, h7]) (by simp) ?_
      refine Can.ren (m := 0) h0 [(0, 1)] [(3, AV.lst false true (List.map (AV.int .u32) ([1779033703, 3144134277, 1013904242, 2773480762, 1359893119, 2600822924, 528734635, 1541459225] : List Int))), (4, AV.slc 0 0 1 ((v4 ++ ([IntKind.wrap .u8 (Int.fdiv (IntKind.wrap .u64 (IntKind.wrap .u64 (v0.length : Int) * 8)) (2 ^ (min ((IntKind.wrap .u64 (IntKind.wrap .i64 (8 * v3))).toNat) 64)))] : List Int)).length) false), (5, AV.int .u64 (IntKind.wrap .u64 (IntKind.wrap .u64 (v0.length : Int) * 8))), (6, AV.int .i64 (IntKind.wrap .i64 (v3 - 1)))] [(0, .grow (List.map (AV.int .u8) (v4 ++ ([IntKind.wrap .u8 (Int.fdiv (IntKind.wrap .u64 (IntKind.wrap .u64 (v0.length : Int) * 8)) (2 ^ (min ((IntKind.wrap .u64 (IntKind.wrap .i64 (8 * v3))).toNat) 64)))] : List Int))))] 1 (by decide) (by decide) (by decide) rfl (by simp [h1, h2, h3_, h3__, h3q, h5, h5_, h6, h7]) (by simp [h1, h2, h3_, h3__, h3q, h5, h5_, h6, h7]) ?_
      exact Can.next (k' := n2) ((IntKind.wrap .i64 (v3 - 1), v4 ++ ([IntKind.wrap .u8 (Int.fdiv (IntKind.wrap .u64 (IntKind.wrap .u64 (v0.length : Int) * 8)) (2 ^ (min ((IntKind.wrap .u64 (IntKind.wrap .i64 (8 * v3))).toNat) 64)))] : List Int))) (by omega) hF (by simp [h1, h2, h3_, h3__, h3q, h5, h5_, h6, h7]) (by simp [h1, h2, h3_, h3__, h3q, h5, h5_, h6, h7]) (by simp)
    · replace hF := ite_f h5 hF
      have h5_ := h5
      try simp at h5_
      refine AW.condF (by decide) (by first | (simp [h1, h2, h3_, h3__, h3q, h5, h5_]; done) | (simp [h1, h2, h3_, h3__, h3q, h5, h5_]; omega)) ?_
      refine AW.exit ?_
      try simp
      refine hK295 _ _ _ ?_
      refine AW.wk [(3, AV.lst false true (List.map (AV.int .u32) ([1779033703, 3144134277, 1013904242, 2773480762, 1359893119, 2600822924, 528734635, 1541459225] : List Int))), (4, AV.slc 0 0 1 v4.length false)] [(0, .grow (List.map (AV.int .u8) v4))] 1 (by simp [h1, h2, h3_, h3__, h3q, h5, h5_]) (by simp [h1, h2, h3_, h3__, h3q, h5, h5_]) (by simp) ?_
      refine AW.frz 0 (o := .grow (List.map (AV.int .u8) v4)) (by simp [h1, h2, h3_, h3__, h3q, h5, h5_]) rfl [(4, AV.lst false false (List.map (AV.int .u8) v4))] [] ⟨(.l (by simp) (by simp) (by simp) (by simp)), trivial⟩ trivial ?_
      refine AW.wk [(3, AV.lst false true (List.map (AV.int .u32) ([1779033703, 3144134277, 1013904242, 2773480762, 1359893119, 2600822924, 528734635, 1541459225] : List Int))), (4, AV.lst false false (List.map (AV.int .u8) v4))] [] 1 (by simp [h1, h2, h3_, h3__, h3q, h5, h5_]) (by simp [h1, h2, h3_, h3__, h3q, h5, h5_]) (by simp) ?_
      refine AW.seqR mixed [] [none, none] (by kernel_rfl) fun G326 R326 hG326 hR326 => ?_
      try simp [h1, h2, h3_, h3__, h3q, h5, h5_]
      repeat' apply And.intro
      try any_goals (first | omega | (unfold maxLen; omega) | (simp [h1, h2, h3_, h3__, h3q, h5, h5_]; done))
      obtain ⟨v5, h8, hF⟩ := bnd1_elim hF
      refine aCall_l (w_ref01_constants k _ h8) (by simp) [] [] [] rfl .nil (by simp [h1, h2, h3_, h3__, h3q, h5, h5_]) (by decide) (by simp) (by simp) (.inl rfl) (by simp) (by simp) ?_
      try simp [h1, h2, h3_, h3__, h3q, h5, h5_]
      repeat' apply And.intro
      any_goals (first | exact hG326 _ (by kernel_rfl) | refine hR326 _ _ _ ?_ | omega | (unfold maxLen; omega) | (simp [h1, h2, h3_, h3__, h3q, h5, h5_]; done) | (simp [h1, h2, h3_, h3__, h3q, h5, h5_]; omega))
      refine AW.wk [(3, AV.lst false true (List.map (AV.int .u32) ([1779033703, 3144134277, 1013904242, 2773480762, 1359893119, 2600822924, 528734635, 1541459225] : List Int))), (4, AV.lst false false (List.map (AV.int .u8) v4)), (7, AV.lst false false (List.map (AV.int .u32) v5))] [] 1 (by simp [h1, h2, h3_, h3__, h3q, h5, h5_]) (by simp [h1, h2, h3_, h3__, h3q, h5, h5_]) (by simp) ?_
      refine AW.seq fun K357 hK357 => ?_
      refine AW.seqR mixed [] [none] (by kernel_rfl) fun G358 R358 hG358 hR358 => ?_
      try simp [h1, h2, h3_, h3__, h3q, h5, h5_]
      repeat' apply And.intro
      any_goals (first | exact hG358 _ (by kernel_rfl) | refine hR358 _ _ _ ?_ | omega | (unfold maxLen; omega) | (simp [h1, h2, h3_, h3__, h3q, h5, h5_]; done) | (simp [h1, h2, h3_, h3__, h3q, h5, h5_]; omega))
      refine AW.wk [(3, AV.lst false true (List.map (AV.int .u32) ([1779033703, 3144134277, 1013904242, 2773480762, 1359893119, 2600822924, 528734635, 1541459225] : List Int))), (4, AV.lst false false (List.map (AV.int .u8) v4)), (7, AV.lst false false (List.map (AV.int .u32) v5)), (8, AV.int .i64 0)] [] 1 (by simp [h1, h2, h3_, h3__, h3q, h5, h5_]) (by simp [h1, h2, h3_, h3__, h3q, h5, h5_]) (by simp) ?_
      refine AW.block ?_
      refine AW.rnm (m := 0) h0 [] [(3, AV.lst false true (List.map (AV.int .u32) ([1779033703, 3144134277, 1013904242, 2773480762, 1359893119, 2600822924, 528734635, 1541459225] : List Int))), (4, AV.lst false false (List.map (AV.int .u8) v4)), (7, AV.lst false false (List.map (AV.int .u32) v5)), (8, AV.int .i64 0)] [] 0 (by decide) (by decide) (by decide) rfl (by simp [h1, h2, h3_, h3__, h3q, h5, h5_]) (by simp [h1, h2, h3_, h3__, h3q, h5, h5_]) ?_
      refine AW.flg [(3, AV.lst false false (List.map (AV.int .u32) ([1779033703, 3144134277, 1013904242, 2773480762, 1359893119, 2600822924, 528734635, 1541459225] : List Int)))] [] ⟨(.lst (by simp)), trivial⟩ trivial (by simp) ?_
      refine AW.loopF (α := ((List Int) × Int)) (fun n (v6, v7) => ref01_Sum.L3 k v4 v5 n v6 v7 = some v1) (fun (v6, v7) => [(3, AV.lst false false (List.map (AV.int .u32) v6)), (4, AV.lst false false (List.map (AV.int .u8) v4)), (7, AV.lst false false (List.map (AV.int .u32) v5)), (8, AV.int .i64 v7)]) (fun (v6, v7) => []) 0 k ((([1779033703, 3144134277, 1013904242, 2773480762, 1359893119, 2600822924, 528734635, 1541459225] : List Int), 0)) hF (by simp [h1, h2, h3_, h3__, h3q, h5, h5_]) (by simp [h1, h2, h3_, h3__, h3q, h5, h5_]) (by simp) ?_
      rintro (_|n3) ⟨v6, v7⟩ hF K380 hK380
      · try dsimp only at hF
        rw [ref01_Sum.L3] at hF; cases hF
      try dsimp only at hF
      rw [ref01_Sum.L3] at hF
      refine AW.seq fun K382 hK382 => ?_
      refine AW.seqR mixed [] [none, none, none, none] (by kernel_rfl) fun G383 R383 hG383 hR383 => ?_
      try simp [h1, h2, h3_, h3__, h3q, h5, h5_]
      repeat' apply And.intro
      any_goals (first | exact hG383 _ (by kernel_rfl) | refine hR383 _ _ _ ?_ | omega | (unfold maxLen; omega) | (simp [h1, h2, h3_, h3__, h3q, h5, h5_]; done) | (simp [h1, h2, h3_, h3__, h3q, h5, h5_]; omega))
      refine AW.wk [(3, AV.lst false false (List.map (AV.int .u32) v6)), (4, AV.lst false false (List.map (AV.int .u8) v4)), (7, AV.lst false false (List.map (AV.int .u32) v5)), (8, AV.int .i64 v7), (44, AV.bool (decide (v7 < (v4.length : Int))))] [] 0 (by simp [h1, h2, h3_, h3__, h3q, h5, h5_]) (by simp [h1, h2, h3_, h3__, h3q, h5, h5_]) (by simp) ?_
      by_cases h9 : v7 < (v4.length : Int)
      · replace hF := ite_t h9 hF
        have h9_ := h9
        try simp at h9_
        refine AW.condT (by decide) (by first | (simp [h1, h2, h3_, h3__, h3q, h5, h5_, h9, h9_]; done) | (simp [h1, h2, h3_, h3__, h3q, h5, h5_, h9, h9_]; omega)) ?_
        refine AW.skip ?_
        refine hK382 _ _ _ ?_
        refine AW.seq fun K385 hK385 => ?_
        refine AW.block ?_
        refine AW.region mixed [] [none, none, none, none, none, none, none, none, none] (by kernel_rfl) fun G386 R386 hG386 hR386 => ?_
        obtain ⟨⟨h10, h11, h12⟩, hF⟩ := chk_elim hF
        have h10_ := h10
        try simp at h10_
        have h11_ := h11
        try simp at h11_
        have h12_ := h12
        try simp at h12_
        try simp [h1, h2, h3_, h3__, h3q, h5, h5_, h9, h9_, h10, h11, h12, h10_, h11_, h12_]
        repeat' apply And.intro
        try any_goals (first | omega | (unfold maxLen; omega) | (simp [h1, h2, h3_, h3__, h3q, h5, h5_, h9, h9_, h10, h11, h12, h10_, h11_, h12_]; done))
        obtain ⟨v8, h13, hF⟩ := bnd1_elim hF
        refine aCall_l (w_ref01_block k _ _ _ _ h13) (by simp) [] [] [] rfl (.cons (.same (by simp [h1, h2, h3_, h3__, h3q, h5, h5_, h9, h9_, h10, h11, h12, h10_, h11_, h12_])) (.cons (.same (by simp [h1, h2, h3_, h3__, h3q, h5, h5_, h9, h9_, h10, h11, h12, h10_, h11_, h12_])) (.cons (.same (by simp [h1, h2, h3_, h3__, h3q, h5, h5_, h9, h9_, h10, h11, h12, h10_, h11_, h12_])) .nil))) (by simp [h1, h2, h3_, h3__, h3q, h5, h5_, h9, h9_, h10, h11, h12, h10_, h11_, h12_]) (by decide) (by simp) (by simp) (.inl rfl) (by simp) (by simp) ?_
        try simp [h1, h2, h3_, h3__, h3q, h5, h5_, h9, h9_, h10, h11, h12, h10_, h11_, h12_]
        repeat' apply And.intro
        any_goals (first | exact hG386 _ (by kernel_rfl) | refine hR386 _ _ _ ?_ | omega | (unfold maxLen; omega) | (simp [h1, h2, h3_, h3__, h3q, h5, h5_, h9, h9_, h10, h11, h12, h10_, h11_, h12_]; done) | (simp [h1, h2, h3_, h3__, h3q, h5, h5_, h9, h9_, h10, h11, h12, h10_, h11_, h12_]; omega))
        refine hK385 _ _ _ ?_
        refine AW.wk [(3, AV.slc 0 0 1 v8.length false), (4, AV.lst false false (List.map (AV.int .u8) v4)), (7, AV.lst false false (List.map (AV.int .u32) v5)), (8, AV.int .i64 v7)] [(0, .grow (List.map (AV.int .u32) v8))] 1 (by simp [h1, h2, h3_, h3__, h3q, h5, h5_, h9, h9_, h10, h11, h12, h10_, h11_, h12_]) (by simp [h1, h2, h3_, h3__, h3q, h5, h5_, h9, h9_, h10, h11, h12, h10_, h11_, h12_]) (by simp) ?_
        refine AW.frz 0 (o := .grow (List.map (AV.int .u32) v8)) (by simp [h1, h2, h3_, h3__, h3q, h5, h5_, h9, h9_, h10, h11, h12, h10_, h11_, h12_]) rfl [(3, AV.lst false false (List.map (AV.int .u32) v8))] [] ⟨(.l (by simp) (by simp) (by simp) (by simp)), trivial⟩ trivial ?_
        refine AW.wk [(3, AV.lst false false (List.map (AV.int .u32) v8)), (4, AV.lst false false (List.map (AV.int .u8) v4)), (7, AV.lst false false (List.map (AV.int .u32) v5)), (8, AV.int .i64 v7)] [] 1 (by simp [h1, h2, h3_, h3__, h3q, h5, h5_, h9, h9_, h10, h11, h12, h10_, h11_, h12_]) (by simp [h1, h2, h3_, h3__, h3q, h5, h5_, h9, h9_, h10, h11, h12, h10_, h11_, h12_]) (by simp) ?_
        refine AW.region mixed [] [none, none, none] (by kernel_rfl) fun G387 R387 hG387 hR387 => ?_
        try simp [h1, h2, h3_, h3__, h3q, h5, h5_, h9, h9_, h10, h11, h12, h10_, h11_, h12_]
        repeat' apply And.intro
        any_goals (first | exact hG387 _ (by kernel_rfl) | refine hR387 _ _ _ ?_ | omega | (unfold maxLen; omega) | (simp [h1, h2, h3_, h3__, h3q, h5, h5_, h9, h9_, h10, h11, h12, h10_, h11_, h12_]; done) | (simp [h1, h2, h3_, h3__, h3q, h5, h5_, h9, h9_, h10, h11, h12, h10_, h11_, h12_]; omega))
        refine hK380 _ _ _ ?_
        refine Can.weak [(3, AV.lst false false (List.map (AV.int .u32) v8)), (4, AV.lst false false (List.map (AV.int .u8) v4)), (7, AV.lst false false (List.map (AV.int .u32) v5)), (8, AV.int .i64 (IntKind.wrap .i64 (v7 + 64)))] [] 1 (by simp [h1, h2, h3_, h3__, h3q, h5, h5_, h9, h9_, h10, h11, h12, h10_, h11_, h12_]) (by simp [h1, h2, h3_, h3__, h3q, h5, h5_, h9, h9_, h10, h11, h12, h10_, h11_, h12_]) (by simp) ?_
        refine Can.ren (m := 0) h0 [] [(3, AV.lst false false (List.map (AV.int .u32) v8)), (4, AV.lst false false (List.map (AV.int .u8) v4)), (7, AV.lst false false (List.map (AV.int .u32) v5)), (8, AV.int .i64 (IntKind.wrap .i64 (v7 + 64)))] [] 0 (by decide) (by decide) (by decide) rfl (by simp [h1, h2, h3_, h3__, h3q, h5, h5_, h9, h9_, h10, h11, h12, h10_, h11_, h12_]) (by simp [h1, h2, h3_, h3__, h3q, h5, h5_, h9, h9_, h10, h11, h12, h10_, h11_, h12_]) ?_
        exact Can.next (k' := n3) ((v8, IntKind.wrap .i64 (v7 + 64))) (by omega) hF (by simp [h1, h2, h3_, h3__, h3q, h5, h5_, h9, h9_, h10, h11, h12, h10_, h11_, h12_]) (by simp [h1, h2, h3_, h3__, h3q, h5, h5_, h9, h9_, h10, h11, h12, h10_, h11_, h12_]) (by simp)
      · replace hF := ite_f h9 hF
        have h9_ := h9
        try simp at h9_
        refine AW.condF (by decide) (by first | (simp [h1, h2, h3_, h3__, h3q, h5, h5_, h9, h9_]; done) | (simp [h1, h2, h3_, h3__, h3q, h5, h5_, h9, h9_]; omega)) ?_
        refine AW.exit ?_
        try simp
        refine hK357 _ _ _ ?_
        refine AW.seqR mixed [] [none] (by kernel_rfl) fun G388 R388 hG388 hR388 => ?_
        try simp [h1, h2, h3_, h3__, h3q, h5, h5_, h9, h9_]
        repeat' apply And.intro
        any_goals (first | exact hG388 _ (by kernel_rfl) | refine hR388 _ _ _ ?_ | omega | (unfold maxLen; omega) | (simp [h1, h2, h3_, h3__, h3q, h5, h5_, h9, h9_]; done) | (simp [h1, h2, h3_, h3__, h3q, h5, h5_, h9, h9_]; omega))
        refine AW.wk [(3, AV.lst false false (List.map (AV.int .u32) v6)), (9, AV.lst true true (List.map (AV.int .u8) ([] : List Int)))] [] 0 (by simp [h1, h2, h3_, h3__, h3q, h5, h5_, h9, h9_]) (by simp [h1, h2, h3_, h3__, h3q, h5, h5_, h9, h9_]) (by simp) ?_
        refine AW.seq fun K419 hK419 => ?_
        refine AW.seqR mixed [] [none] (by kernel_rfl) fun G420 R420 hG420 hR420 => ?_
        try simp [h1, h2, h3_, h3__, h3q, h5, h5_, h9, h9_]
        repeat' apply And.intro
        any_goals (first | exact hG420 _ (by kernel_rfl) | refine hR420 _ _ _ ?_ | omega | (unfold maxLen; omega) | (simp [h1, h2, h3_, h3__, h3q, h5, h5_, h9, h9_]; done) | (simp [h1, h2, h3_, h3__, h3q, h5, h5_, h9, h9_]; omega))
        refine AW.wk [(3, AV.lst false false (List.map (AV.int .u32) v6)), (9, AV.lst true true (List.map (AV.int .u8) ([] : List Int))), (10, AV.int .i64 0)] [] 0 (by simp [h1, h2, h3_, h3__, h3q, h5, h5_, h9, h9_]) (by simp [h1, h2, h3_, h3__, h3q, h5, h5_, h9, h9_]) (by simp) ?_
        refine AW.block ?_
        refine AW.own' 9 1 true (by simp [h1, h2, h3_, h3__, h3q, h5, h5_, h9, h9_]) (by decide) ?_
        refine AW.loopF (α := (Int × (List Int))) (fun n (v9, v10) => ref01_Sum.L4 k v6 n v9 v10 = some v1) (fun (v9, v10) => [(3, AV.lst false false (List.map (AV.int .u32) v6)), (9, AV.slc 0 0 1 v10.length false), (10, AV.int .i64 v9)]) (fun (v9, v10) => [(0, .grow (List.map (AV.int .u8) v10))]) 1 k ((0, ([] : List Int))) hF (by simp [h1, h2, h3_, h3__, h3q, h5, h5_, h9, h9_]) (by simp [h1, h2, h3_, h3__, h3q, h5, h5_, h9, h9_]) (by simp) ?_
        rintro (_|n4) ⟨v9, v10⟩ hF K442 hK442
        · try dsimp only at hF
          rw [ref01_Sum.L4] at hF; cases hF
        try dsimp only at hF
        rw [ref01_Sum.L4] at hF
        refine AW.seq fun K444 hK444 => ?_
        refine AW.seqR mixed [] [none, none] (by kernel_rfl) fun G445 R445 hG445 hR445 => ?_
        try simp [h1, h2, h3_, h3__, h3q, h5, h5_, h9, h9_]
        repeat' apply And.intro
        any_goals (first | exact hG445 _ (by kernel_rfl) | refine hR445 _ _ _ ?_ | omega | (unfold maxLen; omega) | (simp [h1, h2, h3_, h3__, h3q, h5, h5_, h9, h9_]; done) | (simp [h1, h2, h3_, h3__, h3q, h5, h5_, h9, h9_]; omega))
        refine AW.wk [(3, AV.lst false false (List.map (AV.int .u32) v6)), (9, AV.slc 0 0 1 v10.length false), (10, AV.int .i64 v9), (56, AV.bool (decide (v9 < 8)))] [(0, .grow (List.map (AV.int .u8) v10))] 1 (by simp [h1, h2, h3_, h3__, h3q, h5, h5_, h9, h9_]) (by simp [h1, h2, h3_, h3__, h3q, h5, h5_, h9, h9_]) (by simp) ?_
        by_cases h14 : v9 < 8
        · replace hF := ite_t h14 hF
          have h14_ := h14
          try simp at h14_
          refine AW.condT (by decide) (by first | (simp [h1, h2, h3_, h3__, h3q, h5, h5_, h9, h9_, h14, h14_]; done) | (simp [h1, h2, h3_, h3__, h3q, h5, h5_, h9, h9_, h14, h14_]; omega)) ?_
          refine AW.skip ?_
          refine hK444 _ _ _ ?_
          refine AW.seq fun K447 hK447 => ?_
          refine AW.block ?_
          refine AW.region mixed [] [none, none, none, none, none, none, none, none, none, none, none, none, none, none, none, none, none, none, none, none, none, none, none, none, none, none, none] (by kernel_rfl) fun G448 R448 hG448 hR448 => ?_
          obtain ⟨v11, h15, h16, h17, hF⟩ := idx_elim hF
          have h17_ := get_of h17
          try simp at h17_
          have h16_ := h16
          try simp at h16_
          obtain ⟨h18, hF⟩ := chk_elim hF
          have h18_ := h18
          try simp at h18_
          try simp [h1, h2, h3_, h3__, h3q, h5, h5_, h9, h9_, h14, h14_, h15, h16, h17, h17_, h16_, h18]
          repeat' apply And.intro
          any_goals (first | exact hG448 _ (by kernel_rfl) | refine hR448 _ _ _ ?_ | omega | (unfold maxLen; omega) | (simp [h1, h2, h3_, h3__, h3q, h5, h5_, h9, h9_, h14, h14_, h15, h16, h17, h17_, h16_, h18]; done) | (simp [h1, h2, h3_, h3__, h3q, h5, h5_, h9, h9_, h14, h14_, h15, h16, h17, h17_, h16_, h18]; omega))
          refine hK447 _ _ _ ?_
          refine AW.wk [(3, AV.lst false false (List.map (AV.int .u32) v6)), (9, AV.slc 1 0 1 ((v10 ++ ([IntKind.wrap .u8 (Int.fdiv v11 (2 ^ (24))), IntKind.wrap .u8 (Int.fdiv v11 (2 ^ (16))), IntKind.wrap .u8 (Int.fdiv v11 (2 ^ (8))), IntKind.wrap .u8 v11] : List Int)).length) false), (10, AV.int .i64 v9)] [(1, .grow (List.map (AV.int .u8) (v10 ++ ([IntKind.wrap .u8 (Int.fdiv v11 (2 ^ (24))), IntKind.wrap .u8 (Int.fdiv v11 (2 ^ (16))), IntKind.wrap .u8 (Int.fdiv v11 (2 ^ (8))), IntKind.wrap .u8 v11] : List Int))))] 2 (by simp [h1, h2, h3_, h3__, h3q, h5, h5_, h9, h9_, h14, h14_, h15, h16, h17, h17_, h16_, h18]) (by simp [h1, h2, h3_, h3__, h3q, h5, h5_, h9, h9_, h14, h14_, h15, h16, h17, h17_, h16_, h18]) (by simp) ?_
          refine AW.region mixed [] [none, none, none] (by kernel_rfl) fun G449 R449 hG449 hR449 => ?_
          try simp [h1, h2, h3_, h3__, h3q, h5, h5_, h9, h9_, h14, h14_, h15, h16, h17, h17_, h16_, h18]
          repeat' apply And.intro
          any_goals (first | exact hG449 _ (by kernel_rfl) | refine hR449 _ _ _ ?_ | omega | (unfold maxLen; omega) | (simp [h1, h2, h3_, h3__, h3q, h5, h5_, h9, h9_, h14, h14_, h15, h16, h17, h17_, h16_, h18]; done) | (simp [h1, h2, h3_, h3__, h3q, h5, h5_, h9, h9_, h14, h14_, h15, h16, h17, h17_, h16_, h18]; omega))
          refine hK442 _ _ _ ?_
          refine Can.weak [(3, AV.lst false false (List.map (AV.int .u32) v6)), (9, AV.slc 1 0 1 ((v10 ++ ([IntKind.wrap .u8 (Int.fdiv v11 (2 ^ (24))), IntKind.wrap .u8 (Int.fdiv v11 (2 ^ (16))), IntKind.wrap .u8 (Int.fdiv v11 (2 ^ (8))), IntKind.wrap .u8 v11] : List Int)).length) false), (10, AV.int .i64 (IntKind.wrap .i64 (v9 + 1)))] [(1, .grow (List.map (AV.int .u8) (v10 ++ ([IntKind.wrap .u8 (Int.fdiv v11 (2 ^ (24))), IntKind.wrap .u8 (Int.fdiv v11 (2 ^ (16))), IntKind.wrap .u8 (Int.fdiv v11 (2 ^ (8))), IntKind.wrap .u8 v11] : List Int))))] 2 (by simp [h1, h2, h3_, h3__, h3q, h5, h5_, h9, h9_, h14, h14_, h15, h16, h17, h17_, h16_, h18]) (by simp [h1, h2, h3_, h3__, h3q, h5, h5_, h9, h9_, h14, h14_, h15, h16, h17, h17_, h16_, h18]) (by simp) ?_
          refine Can.ren (m := 0) h0 [(0, 1)] [(3, AV.lst false false (List.map (AV.int .u32) v6)), (9, AV.slc 0 0 1 ((v10 ++ ([IntKind.wrap .u8 (Int.fdiv v11 (2 ^ (24))), IntKind.wrap .u8 (Int.fdiv v11 (2 ^ (16))), IntKind.wrap .u8 (Int.fdiv v11 (2 ^ (8))), IntKind.wrap .u8 v11] : List Int)).length) false), (10, AV.int .i64 (IntKind.wrap .i64 (v9 + 1)))] [(0, .grow (List.map (AV.int .u8) (v10 ++ ([IntKind.wrap .u8 (Int.fdiv v11 (2 ^ (24))), IntKind.wrap .u8 (Int.fdiv v11 (2 ^ (16))), IntKind.wrap .u8 (Int.fdiv v11 (2 ^ (8))), IntKind.wrap .u8 v11] : List Int))))] 1 (by decide) (by decide) (by decide) rfl (by simp [h1, h2, h3_, h3__, h3q, h5, h5_, h9, h9_, h14, h14_, h15, h16, h17, h17_, h16_, h18]) (by simp [h1, h2, h3_, h3__, h3q, h5, h5_, h9, h9_, h14, h14_, h15, h16, h17, h17_, h16_, h18]) ?_
          exact Can.next (k' := n4) ((IntKind.wrap .i64 (v9 + 1), v10 ++ ([IntKind.wrap .u8 (Int.fdiv v11 (2 ^ (24))), IntKind.wrap .u8 (Int.fdiv v11 (2 ^ (16))), IntKind.wrap .u8 (Int.fdiv v11 (2 ^ (8))), IntKind.wrap .u8 v11] : List Int))) (by omega) hF (by simp [h1, h2, h3_, h3__, h3q, h5, h5_, h9, h9_, h14, h14_, h15, h16, h17, h17_, h16_, h18]) (by simp [h1, h2, h3_, h3__, h3q, h5, h5_, h9, h9_, h14, h14_, h15, h16, h17, h17_, h16_, h18]) (by simp)
        · replace hF := ite_f h14 hF
          have h14_ := h14
          try simp at h14_
          refine AW.condF (by decide) (by first | (simp [h1, h2, h3_, h3__, h3q, h5, h5_, h9, h9_, h14, h14_]; done) | (simp [h1, h2, h3_, h3__, h3q, h5, h5_, h9, h9_, h14, h14_]; omega)) ?_
          refine AW.exit ?_
          try simp
          refine hK419 _ _ _ ?_
          refine AW.wk [(9, AV.slc 0 0 1 v10.length false)] [(0, .grow (List.map (AV.int .u8) v10))] 1 (by simp [h1, h2, h3_, h3__, h3q, h5, h5_, h9, h9_, h14, h14_]) (by simp [h1, h2, h3_, h3__, h3q, h5, h5_, h9, h9_, h14, h14_]) (by simp) ?_
          refine AW.frz 0 (o := .grow (List.map (AV.int .u8) v10)) (by simp [h1, h2, h3_, h3__, h3q, h5, h5_, h9, h9_, h14, h14_]) rfl [(9, AV.lst false false (List.map (AV.int .u8) v10))] [] ⟨(.l (by simp) (by simp) (by simp) (by simp)), trivial⟩ trivial ?_
          refine AW.wk [(9, AV.lst false false (List.map (AV.int .u8) v10))] [] 1 (by simp [h1, h2, h3_, h3__, h3q, h5, h5_, h9, h9_, h14, h14_]) (by simp [h1, h2, h3_, h3__, h3q, h5, h5_, h9, h9_, h14, h14_]) (by simp) ?_
          refine AW.seqR mixed [] [none, none, none] (by kernel_rfl) fun G450 R450 hG450 hR450 => ?_
          try simp [h1, h2, h3_, h3__, h3q, h5, h5_, h9, h9_, h14, h14_]
          repeat' apply And.intro
          any_goals (first | exact hG450 _ (by kernel_rfl) | refine hR450 _ _ _ ?_ | omega | (unfold maxLen; omega) | (simp [h1, h2, h3_, h3__, h3q, h5, h5_, h9, h9_, h14, h14_]; done) | (simp [h1, h2, h3_, h3__, h3q, h5, h5_, h9, h9_, h14, h14_]; omega))
          refine AW.wk [(2, AV.str (ofI v10))] [] 1 (by simp [h1, h2, h3_, h3__, h3q, h5, h5_, h9, h9_, h14, h14_]) (by simp [h1, h2, h3_, h3__, h3q, h5, h5_, h9, h9_, h14, h14_]) (by simp) ?_
          simp only [Option.some.injEq] at hF
          subst hF
          refine AW.ret (hQ _ _ _ ?_ (matchO_0 ?_)).1
          · simp [Try.f15, h1, h2, h3_, h3__, h3q, h5, h5_, h9, h9_, h14, h14_]
          · simp [h1, h2, h3_, h3__, h3q, h5, h5_, h9, h9_, h14, h14_]
set_option maxHeartbeats 4000000 in
theorem w_law01_DigestLong (k : Nat) (v0 : Int) (v1 : Int) (v2 : Bool) (hF : law01_DigestLong k v0 v1 = some v2) :
    FCall Try.prog 3 [AV.int .i64 v0, AV.int .u8 v1] [] (AV.bool v2) [] := by
  unfold law01_DigestLong at hF
  refine FCall.enter Try.func3 rfl (by simp) (by decide) (by simp) (by simp) (by simp) (by simp) (by simp) ?_
  intro c0 w0 Q h0 hQ
  refine AW.wk [(0, AV.int .i64 v0), (1, AV.int .u8 v1)] [] 0 (by simp [-List.reduceReplicate, sOf_set, ofI_set, allU8_set]) (by simp [-List.reduceReplicate, sOf_set, ofI_set, allU8_set]) (by simp) ?_
  refine AW.seqR mixed [] [none] (by kernel_rfl) fun G65 R65 hG65 hR65 => ?_
  try simp [-List.reduceReplicate, sOf_set, ofI_set, allU8_set]
  repeat' apply And.intro
  any_goals (first | exact hG65 _ (by kernel_rfl) | refine hR65 _ _ _ ?_ | omega | (unfold maxLen; omega) | (simp [-List.reduceReplicate, sOf_set, ofI_set, allU8_set]; done) | (simp [-List.reduceReplicate, sOf_set, ofI_set, allU8_set]; omega))
  refine AW.wk [(0, AV.int .i64 v0), (1, AV.int .u8 v1)] [] 0 (by simp [-List.reduceReplicate, sOf_set, ofI_set, allU8_set]) (by simp [-List.reduceReplicate, sOf_set, ofI_set, allU8_set]) (by simp) ?_
  refine AW.seqR mixed [9] [none, none, none, none] (by kernel_rfl) fun G66 R66 hG66 hR66 => ?_
  try simp [-List.reduceReplicate, sOf_set, ofI_set, allU8_set]
  repeat' apply And.intro
  try any_goals (first | omega | (unfold maxLen; omega) | (simp [-List.reduceReplicate, sOf_set, ofI_set, allU8_set]; done))
  obtain ⟨v3, h1, hF⟩ := bnd1_elim hF
  refine aCall_l (w_made_Mod k _ _ _ h1) (by simp) [] [] [] rfl (.cons (.same (by simp)) (.cons (.same (by simp)) .nil)) (by simp [-List.reduceReplicate, sOf_set, ofI_set, allU8_set]) (by decide) (by simp) (by simp) (.inl rfl) (by simp) (by simp) ?_
  obtain ⟨h2, hF⟩ := chk_elim hF
  try simp [-List.reduceReplicate, sOf_set, ofI_set, allU8_set, h2]
  repeat' apply And.intro
  any_goals (first | exact hG66 _ (by kernel_rfl) | refine hR66 _ _ _ ?_ | omega | (unfold maxLen; omega) | (simp [-List.reduceReplicate, sOf_set, ofI_set, allU8_set, h2]; done) | (simp [-List.reduceReplicate, sOf_set, ofI_set, allU8_set, h2]; omega))
  refine AW.wk [(1, AV.int .u8 v1), (5, AV.slc 0 0 1 ((List.replicate (v3).toNat 0).length) true)] [(0, .cells (List.map (AV.int .u8) (List.replicate (v3).toNat 0)))] 1 (by simp [-List.reduceReplicate, sOf_set, ofI_set, allU8_set, h2]) (by simp [-List.reduceReplicate, sOf_set, ofI_set, allU8_set, h2]) (by simp) ?_
  refine AW.seq fun K97 hK97 => ?_
  refine AW.seqR mixed [] [none] (by kernel_rfl) fun G98 R98 hG98 hR98 => ?_
  try simp [-List.reduceReplicate, sOf_set, ofI_set, allU8_set, h2]
  repeat' apply And.intro
  any_goals (first | exact hG98 _ (by kernel_rfl) | refine hR98 _ _ _ ?_ | omega | (unfold maxLen; omega) | (simp [-List.reduceReplicate, sOf_set, ofI_set, allU8_set, h2]; done) | (simp [-List.reduceReplicate, sOf_set, ofI_set, allU8_set, h2]; omega))
  refine AW.wk [(1, AV.int .u8 v1), (5, AV.slc 0 0 1 ((List.replicate (v3).toNat 0).length) true), (6, AV.int .i64 0)] [(0, .cells (List.map (AV.int .u8) (List.replicate (v3).toNat 0)))] 1 (by simp [-List.reduceReplicate, sOf_set, ofI_set, allU8_set, h2]) (by simp [-List.reduceReplicate, sOf_set, ofI_set, allU8_set, h2]) (by simp) ?_
  refine AW.block ?_
  refine AW.loopF (α := (Int × (List Int))) (fun n (v4, v5) => law01_DigestLong.L1 k v1 n v4 v5 = some v2) (fun (v4, v5) => [(1, AV.int .u8 v1), (5, AV.slc 0 0 1 v5.length true), (6, AV.int .i64 v4)]) (fun (v4, v5) => [(0, .cells (List.map (AV.int .u8) v5))]) 1 k ((0, (List.replicate (v3).toNat 0))) hF (by simp [-List.reduceReplicate, sOf_set, ofI_set, allU8_set, h2]) (by simp [-List.reduceReplicate, sOf_set, ofI_set, allU8_set, h2]) (by simp) ?_
  rintro (_|n1) ⟨v4, v5⟩ hF K120 hK120
  · try dsimp only at hF
    rw [law01_DigestLong.L1] at hF; cases hF
  try dsimp only at hF
  rw [law01_DigestLong.L1] at hF
  refine AW.seq fun K122 hK122 => ?_
  refine AW.seqR mixed [] [none, none, none, none] (by kernel_rfl) fun G123 R123 hG123 hR123 => ?_
  try simp [-List.reduceReplicate, sOf_set, ofI_set, allU8_set, h2]
  repeat' apply And.intro
  any_goals (first | exact hG123 _ (by kernel_rfl) | refine hR123 _ _ _ ?_ | omega | (unfold maxLen; omega) | (simp [-List.reduceReplicate, sOf_set, ofI_set, allU8_set, h2]; done) | (simp [-List.reduceReplicate, sOf_set, ofI_set, allU8_set, h2]; omega))
  refine AW.wk [(1, AV.int .u8 v1), (5, AV.slc 0 0 1 v5.length true), (6, AV.int .i64 v4), (13, AV.bool (decide (v4 < (v5.length : Int))))] [(0, .cells (List.map (AV.int .u8) v5))] 1 (by simp [-List.reduceReplicate, sOf_set, ofI_set, allU8_set, h2]) (by simp [-List.reduceReplicate, sOf_set, ofI_set, allU8_set, h2]) (by simp) ?_
  by_cases h3 : v4 < (v5.length : Int)
  · replace hF := ite_t h3 hF
    have h3_ := h3
    try simp at h3_
    refine AW.condT (by decide) (by first | (simp [-List.reduceReplicate, sOf_set, ofI_set, allU8_set, h2, h3, h3_]; done) | (simp [-List.reduceReplicate, sOf_set, ofI_set, allU8_set, h2, h3, h3_]; omega)) ?_
    refine AW.skip ?_
    refine hK122 _ _ _ ?_
    refine AW.seq fun K125 hK125 => ?_
    refine AW.block ?_
    refine AW.region mixed [] [none, none, none, none, none, none, none, none] (by kernel_rfl) fun G126 R126 hG126 hR126 => ?_
    obtain ⟨⟨h4, h5⟩, hF⟩ := chk_elim hF
    have h5_ := ne_of_lt h5
    try simp [-List.reduceReplicate, sOf_set, ofI_set, allU8_set, h2, h3, h3_, h4, h5, h5_]
    repeat' apply And.intro
    any_goals (first | exact hG126 _ (by kernel_rfl) | refine hR126 _ _ _ ?_ | omega | (unfold maxLen; omega) | (simp [-List.reduceReplicate, sOf_set, ofI_set, allU8_set, h2, h3, h3_, h4, h5, h5_]; done) | (simp [-List.reduceReplicate, sOf_set, ofI_set, allU8_set, h2, h3, h3_, h4, h5, h5_]; omega))
    refine hK125 _ _ _ ?_
    refine AW.wk [(1, AV.int .u8 v1), (5, AV.slc 0 0 1 ((v5.set (v4).toNat (IntKind.wrap .u8 (v1 + IntKind.wrap .u8 v4))).length) true), (6, AV.int .i64 v4)] [(0, .cells (List.map (AV.int .u8) (v5.set (v4).toNat (IntKind.wrap .u8 (v1 + IntKind.wrap .u8 v4)))))] 1 (by simp [-List.reduceReplicate, sOf_set, ofI_set, allU8_set, h2, h3, h3_, h4, h5, h5_]) (by simp [-List.reduceReplicate, sOf_set, ofI_set, allU8_set, h2, h3, h3_, h4, h5, h5_]) (by simp) ?_
    refine AW.region mixed [] [none, none, none] (by kernel_rfl) fun G127 R127 hG127 hR127 => ?_
    try simp [-List.reduceReplicate, sOf_set, ofI_set, allU8_set, h2, h3, h3_, h4, h5, h5_]
    repeat' apply And.intro
    any_goals (first | exact hG127 _ (by kernel_rfl) | refine hR127 _ _ _ ?_ | omega | (unfold maxLen; omega) | (simp [-List.reduceReplicate, sOf_set, ofI_set, allU8_set, h2, h3, h3_, h4, h5, h5_]; done) | (simp [-List.reduceReplicate, sOf_set, ofI_set, allU8_set, h2, h3, h3_, h4, h5, h5_]; omega))
    refine hK120 _ _ _ ?_
    refine Can.weak [(1, AV.int .u8 v1), (5, AV.slc 0 0 1 ((v5.set (v4).toNat (IntKind.wrap .u8 (v1 + IntKind.wrap .u8 v4))).length) true), (6, AV.int .i64 (IntKind.wrap .i64 (v4 + 1)))] [(0, .cells (List.map (AV.int .u8) (v5.set (v4).toNat (IntKind.wrap .u8 (v1 + IntKind.wrap .u8 v4)))))] 1 (by simp [-List.reduceReplicate, sOf_set, ofI_set, allU8_set, h2, h3, h3_, h4, h5, h5_]) (by simp [-List.reduceReplicate, sOf_set, ofI_set, allU8_set, h2, h3, h3_, h4, h5, h5_]) (by simp) ?_
    exact Can.next (k' := n1) ((IntKind.wrap .i64 (v4 + 1), v5.set (v4).toNat (IntKind.wrap .u8 (v1 + IntKind.wrap .u8 v4)))) (by omega) hF (by simp [-List.reduceReplicate, sOf_set, ofI_set, allU8_set, h2, h3, h3_, h4, h5, h5_]) (by simp [-List.reduceReplicate, sOf_set, ofI_set, allU8_set, h2, h3, h3_, h4, h5, h5_]) (by simp)
  · replace hF := ite_f h3 hF
    have h3_ := h3
    try simp at h3_
    refine AW.condF (by decide) (by first | (simp [-List.reduceReplicate, sOf_set, ofI_set, allU8_set, h2, h3, h3_]; done) | (simp [-List.reduceReplicate, sOf_set, ofI_set, allU8_set, h2, h3, h3_]; omega)) ?_
    refine AW.exit ?_
    try simp
    refine hK97 _ _ _ ?_
    refine AW.wk [(5, AV.slc 0 0 1 v5.length true)] [(0, .cells (List.map (AV.int .u8) v5))] 1 (by simp [-List.reduceReplicate, sOf_set, ofI_set, allU8_set, h2, h3, h3_]) (by simp [-List.reduceReplicate, sOf_set, ofI_set, allU8_set, h2, h3, h3_]) (by simp) ?_
    refine AW.frz 0 (o := .cells (List.map (AV.int .u8) v5)) (by simp [-List.reduceReplicate, sOf_set, ofI_set, allU8_set, h2, h3, h3_]) rfl [(5, AV.lst false true (List.map (AV.int .u8) v5))] [] ⟨(.l (by simp) (by simp) (by simp) (by simp)), trivial⟩ trivial ?_
    refine AW.wk [(5, AV.lst false true (List.map (AV.int .u8) v5))] [] 1 (by simp [-List.reduceReplicate, sOf_set, ofI_set, allU8_set, h2, h3, h3_]) (by simp [-List.reduceReplicate, sOf_set, ofI_set, allU8_set, h2, h3, h3_]) (by simp) ?_
    refine AW.seqR mixed [] [none, none, some (24, true), some (24, true), some (24, true), some (24, true), some (24, true), none, none, some (31, true), some (31, true), some (31, true), some (31, true), none, none] (by kernel_rfl) fun G128 R128 hG128 hR128 => ?_
    try simp [-List.reduceReplicate, sOf_set, ofI_set, allU8_set, h2, h3, h3_]
    repeat' apply And.intro
    try any_goals (first | omega | (unfold maxLen; omega) | (simp [-List.reduceReplicate, sOf_set, ofI_set, allU8_set, h2, h3, h3_]; done))
    obtain ⟨v6, h6, hF⟩ := bnd1_elim hF
    refine aCall_l (w_law01_awake k _ h6) (by simp) [] [] [] rfl .nil (by simp [-List.reduceReplicate, sOf_set, ofI_set, allU8_set, h2, h3, h3_]) (by decide) (by simp) (by simp) (.inl rfl) (by simp) (by simp) ?_
    by_cases h7 : v6 = true
    · replace hF := ite_t h7 hF
      have h7_ := h7
      try simp at h7_
      try simp [-List.reduceReplicate, sOf_set, ofI_set, allU8_set, h2, h3, h3_, h7, h7_]
      repeat' apply And.intro
      try any_goals (first | omega | (unfold maxLen; omega) | (simp [-List.reduceReplicate, sOf_set, ofI_set, allU8_set, h2, h3, h3_, h7, h7_]; done))
      obtain ⟨v7, h8, hF⟩ := bnd1_elim hF
      refine aCall_l (w_digest_Sum k _ _ h8) (by simp) [] [] [] rfl (.cons (Coe.fl (by simp [-List.reduceReplicate, sOf_set, ofI_set, allU8_set, h2, h3, h3_, h7, h7_])) .nil) (by simp [-List.reduceReplicate, sOf_set, ofI_set, allU8_set, h2, h3, h3_, h7, h7_]) (by decide) (by simp) (by simp) (.inl rfl) (by simp) (by simp) ?_
      try simp [-List.reduceReplicate, sOf_set, ofI_set, allU8_set, h2, h3, h3_, h7, h7_]
      repeat' apply And.intro
      try any_goals (first | omega | (unfold maxLen; omega) | (simp [-List.reduceReplicate, sOf_set, ofI_set, allU8_set, h2, h3, h3_, h7, h7_]; done))
      obtain ⟨v8, h9, hF⟩ := bnd1_elim hF
      refine aCall_l (w_ref01_Sum k _ _ h9) (by simp) [] [] [] rfl (.cons (Coe.fl (by simp [-List.reduceReplicate, sOf_set, ofI_set, allU8_set, h2, h3, h3_, h7, h7_])) .nil) (by simp [-List.reduceReplicate, sOf_set, ofI_set, allU8_set, h2, h3, h3_, h7, h7_]) (by decide) (by simp) (by simp) (.inl rfl) (by simp) (by simp) ?_
      by_cases h10 : (strEq v7 v8) = true
      · replace hF := ite_t h10 hF
        have h10_ := h10
        try simp at h10_
        try simp [-List.reduceReplicate, sOf_set, ofI_set, allU8_set, h2, h3, h3_, h7, h7_, h10, h10_]
        repeat' apply And.intro
        try any_goals (first | omega | (unfold maxLen; omega) | (simp [-List.reduceReplicate, sOf_set, ofI_set, allU8_set, h2, h3, h3_, h7, h7_, h10, h10_]; done))
        obtain ⟨v9, h11, hF⟩ := bnd1_elim hF
        refine aCall_l (w_digest_Sum k _ _ h11) (by simp) [] [] [] rfl (.cons (Coe.fl (by simp [-List.reduceReplicate, sOf_set, ofI_set, allU8_set, h2, h3, h3_, h7, h7_, h10, h10_])) .nil) (by simp [-List.reduceReplicate, sOf_set, ofI_set, allU8_set, h2, h3, h3_, h7, h7_, h10, h10_]) (by decide) (by simp) (by simp) (.inl rfl) (by simp) (by simp) ?_
        try simp [-List.reduceReplicate, sOf_set, ofI_set, allU8_set, h2, h3, h3_, h7, h7_, h10, h10_]
        repeat' apply And.intro
        any_goals (first | exact hG128 _ (by kernel_rfl) | refine hR128 _ _ _ ?_ | omega | (unfold maxLen; omega) | (simp [-List.reduceReplicate, sOf_set, ofI_set, allU8_set, h2, h3, h3_, h7, h7_, h10, h10_]; done) | (simp [-List.reduceReplicate, sOf_set, ofI_set, allU8_set, h2, h3, h3_, h7, h7_, h10, h10_]; omega))
        refine AW.wk [(4, AV.bool ((v9.size : Int) == 32))] [] 1 (by simp [-List.reduceReplicate, sOf_set, ofI_set, allU8_set, h2, h3, h3_, h7, h7_, h10, h10_]) (by simp [-List.reduceReplicate, sOf_set, ofI_set, allU8_set, h2, h3, h3_, h7, h7_, h10, h10_]) (by simp) ?_
        simp only [Option.some.injEq] at hF
        subst hF
        refine AW.ret (hQ _ _ _ ?_ (matchO_0 ?_)).1
        · simp [Try.f3, h2, h3, h3_, h7, h7_, h10, h10_]
        · simp [h2, h3, h3_, h7, h7_, h10, h10_]
      · replace hF := ite_f h10 hF
        have h10_ := h10
        try simp at h10_
        try simp [-List.reduceReplicate, sOf_set, ofI_set, allU8_set, h2, h3, h3_, h7, h7_, h10, h10_]
        repeat' apply And.intro
        any_goals (first | exact hG128 _ (by kernel_rfl) | refine hR128 _ _ _ ?_ | omega | (unfold maxLen; omega) | (simp [-List.reduceReplicate, sOf_set, ofI_set, allU8_set, h2, h3, h3_, h7, h7_, h10, h10_]; done) | (simp [-List.reduceReplicate, sOf_set, ofI_set, allU8_set, h2, h3, h3_, h7, h7_, h10, h10_]; omega))
        refine AW.wk [(4, AV.bool false)] [] 1 (by simp [-List.reduceReplicate, sOf_set, ofI_set, allU8_set, h2, h3, h3_, h7, h7_, h10, h10_]) (by simp [-List.reduceReplicate, sOf_set, ofI_set, allU8_set, h2, h3, h3_, h7, h7_, h10, h10_]) (by simp) ?_
        simp only [Option.some.injEq] at hF
        subst hF
        refine AW.ret (hQ _ _ _ ?_ (matchO_0 ?_)).1
        · simp [Try.f3, h2, h3, h3_, h7, h7_, h10, h10_]
        · simp [h2, h3, h3_, h7, h7_, h10, h10_]
    · replace hF := ite_f h7 hF
      have h7_ := h7
      try simp at h7_
      try simp [-List.reduceReplicate, sOf_set, ofI_set, allU8_set, h2, h3, h3_, h7, h7_]
      repeat' apply And.intro
      any_goals (first | exact hG128 _ (by kernel_rfl) | refine hR128 _ _ _ ?_ | omega | (unfold maxLen; omega) | (simp [-List.reduceReplicate, sOf_set, ofI_set, allU8_set, h2, h3, h3_, h7, h7_]; done) | (simp [-List.reduceReplicate, sOf_set, ofI_set, allU8_set, h2, h3, h3_, h7, h7_]; omega))
      refine AW.wk [(4, AV.bool false)] [] 1 (by simp [-List.reduceReplicate, sOf_set, ofI_set, allU8_set, h2, h3, h3_, h7, h7_]) (by simp [-List.reduceReplicate, sOf_set, ofI_set, allU8_set, h2, h3, h3_, h7, h7_]) (by simp) ?_
      simp only [Option.some.injEq] at hF
      subst hF
      refine AW.ret (hQ _ _ _ ?_ (matchO_0 ?_)).1
      · simp [Try.f3, h2, h3, h3_, h7, h7_]
      · simp [h2, h3, h3_, h7, h7_]
end Go.TF
