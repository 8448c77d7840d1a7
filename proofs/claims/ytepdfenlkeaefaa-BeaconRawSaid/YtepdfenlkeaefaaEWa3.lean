/- Walks: the Go text computes the Lean functions (printed by a program of our own). -/
import Derived.Test.YtepdfenlkeaefaaEPu
import Derived.Test.YtepdfenlkeaefaaEAbsT
import Derived.Test.YtepdfenlkeaefaaEWa0
import Derived.Test.YtepdfenlkeaefaaEWa1
import Derived.Test.YtepdfenlkeaefaaEWa2
set_option linter.unusedVariables false
set_option linter.unusedSimpArgs false
set_option maxRecDepth 100000
namespace Go.TF
open Go Go.Abs Go.Proofs Go.Proofs.YtepdfenlkeaefaaET
set_option maxHeartbeats 4000000 in
theorem w_digest_Sum (k : Nat) (v0 : (List Int)) (v1 : ByteArray) (hF : digest_Sum k v0 = some v1) :
    FCall Try.prog 14 [AV.lst false false (List.map (AV.int .u8) v0)] [] (AV.str v1) [] := by
  unfold digest_Sum at hF
  refine FCall.enter Try.func14 rfl (by simp) (by decide) (by simp) (by simp) (by simp) (by simp) (by simp) ?_
  intro c0 w0 Q h0 hQ
  refine AW.wk [(0, AV.lst false false (List.map (AV.int .u8) v0))] [] 0 (by simp) (by simp) (by simp) ?_
  refine AW.seqR mixed [] [none] (by kernel_rfl) fun G231 R231 hG231 hR231 => ?_
  try simp
  repeat' apply And.intro
  any_goals (first | exact hG231 _ (by kernel_rfl) | refine hR231 _ _ _ ?_ | omega | (unfold maxLen; omega) | (simp; done) | (simp; omega))
  refine AW.wk [(0, AV.lst false false (List.map (AV.int .u8) v0))] [] 0 (by simp) (by simp) (by simp) ?_
  refine AW.seqR mixed [12] [none, none, none, none, none] (by kernel_rfl) fun G232 R232 hG232 hR232 => ?_
  obtain ⟨h1, hF⟩ := chk_elim hF
  have h1_ := h1
  try simp at h1_
  obtain ⟨h2, hF⟩ := chk_elim hF
  have h2_ := h2
  try simp at h2_
  try simp [h1, h2]
  repeat' apply And.intro
  any_goals (first | exact hG232 _ (by kernel_rfl) | refine hR232 _ _ _ ?_ | omega | (unfold maxLen; omega) | (simp [h1, h2]; done) | (simp [h1, h2]; omega))
  refine AW.wk [(0, AV.lst false false (List.map (AV.int .u8) v0)), (3, AV.slc 1 0 1 ((v0 ++ ([128] : List Int)).length) false)] [(1, .grow (List.map (AV.int .u8) (v0 ++ ([128] : List Int))))] 2 (by simp [h1, h2] <;> omega) (by simp [h1, h2]) (by simp) ?_
  refine AW.seq fun K250 hK250 => ?_
  refine AW.block ?_
  refine AW.rnm (m := 0) h0 [(0, 1)] [(0, AV.lst false false (List.map (AV.int .u8) v0)), (3, AV.slc 0 0 1 ((v0 ++ ([128] : List Int)).length) false)] [(0, .grow (List.map (AV.int .u8) (v0 ++ ([128] : List Int))))] 1 (by decide) (by decide) (by decide) rfl (by simp [h1, h2]) (by simp [h1, h2]) ?_
  refine AW.loopF (α := (List Int)) (fun n v2 => digest_Sum.L1 k v0 n v2 = some v1) (fun v2 => [(0, AV.lst false false (List.map (AV.int .u8) v0)), (3, AV.slc 0 0 1 v2.length false)]) (fun v2 => [(0, .grow (List.map (AV.int .u8) v2))]) 1 k (v0 ++ ([128] : List Int)) hF (by simp [h1, h2]) (by simp [h1, h2]) (by simp) ?_
  rintro (_|n1) v2 hF K263 hK263
  · try dsimp only at hF
    rw [digest_Sum.L1] at hF; cases hF
  try dsimp only at hF
  rw [digest_Sum.L1] at hF
  refine AW.seq fun K265 hK265 => ?_
  refine AW.seqR mixed [] [none, none, none, none] (by kernel_rfl) fun G266 R266 hG266 hR266 => ?_
  try simp [h1, h2]
  repeat' apply And.intro
  any_goals (first | exact hG266 _ (by kernel_rfl) | refine hR266 _ _ _ ?_ | omega | (unfold maxLen; omega) | (simp [h1, h2]; done) | (simp [h1, h2]; omega))
  refine AW.wk [(0, AV.lst false false (List.map (AV.int .u8) v0)), (3, AV.slc 0 0 1 v2.length false), (18, AV.bool ((Int.tmod (v2.length : Int) 64) != 56))] [(0, .grow (List.map (AV.int .u8) v2))] 1 (by simp [h1, h2]) (by simp [h1, h2]) (by simp) ?_
  by_cases h3 : (Int.tmod (v2.length : Int) 64) ≠ 56
  · replace hF := ite_t h3 hF
    have h3_ := eqb_f h3
    have h3__ := neb_t h3
    refine AW.condT (by decide) (by first | (simp [h1, h2, h3, h3_, h3__]; done) | (simp [h1, h2, h3, h3_, h3__]; omega)) ?_
    refine AW.skip ?_
    refine hK265 _ _ _ ?_
    refine AW.block ?_
    refine AW.region mixed [] [none, none, none, none] (by kernel_rfl) fun G267 R267 hG267 hR267 => ?_
    obtain ⟨h4, hF⟩ := chk_elim hF
    have h4_ := h4
    try simp at h4_
    try simp [h1, h2, h3, h3_, h3__, h4]
    repeat' apply And.intro
    any_goals (first | exact hG267 _ (by kernel_rfl) | refine hR267 _ _ _ ?_ | omega | (unfold maxLen; omega) | (simp [h1, h2, h3, h3_, h3__, h4]; done) | (simp [h1, h2, h3, h3_, h3__, h4]; omega))
    refine hK263 _ _ _ ?_
    refine Can.weak [(0, AV.lst false false (List.map (AV.int .u8) v0)), (3, AV.slc 1 0 1 ((v2 ++ ([0] : List Int)).length) false)] [(1, .grow (List.map (AV.int .u8) (v2 ++ ([0] : List Int))))] 2 (by simp [h1, h2, h3, h3_, h3__, h4] <;> omega) (by simp [h1, h2, h3, h3_, h3__, h4]) (by simp) ?_
    refine Can.ren (m := 0) h0 [(0, 1)] [(0, AV.lst false false (List.map (AV.int .u8) v0)), (3, AV.slc 0 0 1 ((v2 ++ ([0] : List Int)).length) false)] [(0, .grow (List.map (AV.int .u8) (v2 ++ ([0] : List Int))))] 1 (by decide) (by decide) (by decide) rfl (by simp [h1, h2, h3, h3_, h3__, h4]) (by simp [h1, h2, h3, h3_, h3__, h4]) ?_
    exact Can.next (k' := n1) (v2 ++ ([0] : List Int)) (by omega) hF (by simp [h1, h2, h3, h3_, h3__, h4]) (by simp [h1, h2, h3, h3_, h3__, h4]) (by simp)
  · replace hF := ite_f h3 hF
    have h3q : (Int.tmod (v2.length : Int) 64) = 56 := Classical.not_not.1 h3
    have h3_ := eqb_t h3q
    have h3__ := neb_f h3q
    refine AW.condF (by decide) (by first | (simp [h1, h2, h3_, h3__, h3q]; done) | (simp [h1, h2, h3_, h3__, h3q]; omega)) ?_
    refine AW.exit ?_
    try simp
    refine hK250 _ _ _ ?_
    refine AW.seqR mixed [] [none, none, none, none, none] (by kernel_rfl) fun G268 R268 hG268 hR268 => ?_
    try simp [h1, h2, h3_, h3__, h3q]
    repeat' apply And.intro
    any_goals (first | exact hG268 _ (by kernel_rfl) | refine hR268 _ _ _ ?_ | omega | (unfold maxLen; omega) | (simp [h1, h2, h3_, h3__, h3q]; done) | (simp [h1, h2, h3_, h3__, h3q]; omega))
    refine AW.wk [(3, AV.slc 0 0 1 v2.length false), (4, AV.int .u64 (IntKind.wrap .u64 (IntKind.wrap .u64 (v0.length : Int) * 8)))] [(0, .grow (List.map (AV.int .u8) v2))] 1 (by simp [h1, h2, h3_, h3__, h3q]) (by simp [h1, h2, h3_, h3__, h3q]) (by simp) ?_
    refine AW.seq fun K299 hK299 => ?_
    refine AW.seqR mixed [] [none] (by kernel_rfl) fun G300 R300 hG300 hR300 => ?_
    try simp [h1, h2, h3_, h3__, h3q]
    repeat' apply And.intro
    any_goals (first | exact hG300 _ (by kernel_rfl) | refine hR300 _ _ _ ?_ | omega | (unfold maxLen; omega) | (simp [h1, h2, h3_, h3__, h3q]; done) | (simp [h1, h2, h3_, h3__, h3q]; omega))
    refine AW.wk [(3, AV.slc 0 0 1 v2.length false), (4, AV.int .u64 (IntKind.wrap .u64 (IntKind.wrap .u64 (v0.length : Int) * 8))), (5, AV.int .i64 56)] [(0, .grow (List.map (AV.int .u8) v2))] 1 (by simp [h1, h2, h3_, h3__, h3q]) (by simp [h1, h2, h3_, h3__, h3q]) (by simp) ?_
    refine AW.block ?_
    refine AW.loopF (α := (Int × (List Int))) (fun n (v3, v4) => digest_Sum.L2 k v0 n v3 v4 = some v1) (fun (v3, v4) => [(3, AV.slc 0 0 1 v4.length false), (4, AV.int .u64 (IntKind.wrap .u64 (IntKind.wrap .u64 (v0.length : Int) * 8))), (5, AV.int .i64 v3)]) (fun (v3, v4) => [(0, .grow (List.map (AV.int .u8) v4))]) 1 k ((56, v2)) hF (by simp [h1, h2, h3_, h3__, h3q]) (by simp [h1, h2, h3_, h3__, h3q]) (by simp) ?_
    rintro (_|n2) ⟨v3, v4⟩ hF K322 hK322
    · try dsimp only at hF
      rw [digest_Sum.L2] at hF; cases hF
    try dsimp only at hF
    rw [digest_Sum.L2] at hF
    refine AW.seq fun K324 hK324 => ?_
    refine AW.seqR mixed [] [none, none] (by kernel_rfl) fun G325 R325 hG325 hR325 => ?_
    try simp [h1, h2, h3_, h3__, h3q]
    repeat' apply And.intro
    any_goals (first | exact hG325 _ (by kernel_rfl) | refine hR325 _ _ _ ?_ | omega | (unfold maxLen; omega) | (simp [h1, h2, h3_, h3__, h3q]; done) | (simp [h1, h2, h3_, h3__, h3q]; omega))
    refine AW.wk [(3, AV.slc 0 0 1 v4.length false), (4, AV.int .u64 (IntKind.wrap .u64 (IntKind.wrap .u64 (v0.length : Int) * 8))), (5, AV.int .i64 v3), (27, AV.bool (decide (0 ≤ v3)))] [(0, .grow (List.map (AV.int .u8) v4))] 1 (by simp [h1, h2, h3_, h3__, h3q]) (by simp [h1, h2, h3_, h3__, h3q]) (by simp) ?_
    by_cases h5 : 0 ≤ v3
    · replace hF := ite_t h5 hF
      have h5_ := h5
      try simp at h5_
      refine AW.condT (by decide) (by first | (simp [h1, h2, h3_, h3__, h3q, h5, h5_]; done) | (simp [h1, h2, h3_, h3__, h3q, h5, h5_]; omega)) ?_
      refine AW.skip ?_
      refine hK324 _ _ _ ?_
      refine AW.seq fun K327 hK327 => ?_
      refine AW.block ?_
      refine AW.region mixed [] [none, none, none, none, none, none, none, none, none] (by kernel_rfl) fun G328 R328 hG328 hR328 => ?_
      obtain ⟨h6, hF⟩ := chk_elim hF
      obtain ⟨h7, hF⟩ := chk_elim hF
      have h7_ := h7
      try simp at h7_
      try simp [h1, h2, h3_, h3__, h3q, h5, h5_, h6, h7]
      repeat' apply And.intro
      any_goals (first | exact hG328 _ (by kernel_rfl) | refine hR328 _ _ _ ?_ | omega | (unfold maxLen; omega) | (simp [h1, h2, h3_, h3__, h3q, h5, h5_, h6, h7]; done) | (simp [h1, h2, h3_, h3__, h3q, h5, h5_, h6, h7]; omega))
      refine hK327 _ _ _ ?_
      refine AW.wk [(3, AV.slc 1 0 1 ((v4 ++ ([IntKind.wrap .u8 (Int.fdiv (IntKind.wrap .u64 (IntKind.wrap .u64 (v0.length : Int) * 8)) (2 ^ (min ((IntKind.wrap .u64 v3).toNat) 64)))] : List Int)).length) false), (4, AV.int .u64 (IntKind.wrap .u64 (IntKind.wrap .u64 (v0.length : Int) * 8))), (5, AV.int .i64 v3)] [(1, .grow (List.map (AV.int .u8) (v4 ++ ([IntKind.wrap .u8 (Int.fdiv (IntKind.wrap .u64 (IntKind.wrap .u64 (v0.length : Int) * 8)) (2 ^ (min ((IntKind.wrap .u64 v3).toNat) 64)))] : List Int))))] 2 (by simp [h1, h2, h3_, h3__, h3q, h5, h5_, h6, h7] <;> omega) (by simp [h1, h2, h3_, h3__, h3q, h5, h5_, h6, h7]) (by simp) ?_
      refine AW.region mixed [] [none, none, none] (by kernel_rfl) fun G329 R329 hG329 hR329 => ?_
      try simp [h1, h2, h3_, h3__, h3q, h5, h5_, h6, h7]
      repeat' apply And.intro
      any_goals (first | exact hG329 _ (by kernel_rfl) | refine hR329 _ _ _ ?_ | omega | (unfold maxLen; omega) | (simp [h1, h2, h3_, h3__, h3q, h5, h5_, h6, h7]; done) | (simp [h1, h2, h3_, h3__, h3q, h5, h5_, h6, h7]; omega))
      refine hK322 _ _ _ ?_
      refine Can.weak [(3, AV.slc 1 0 1 ((v4 ++ ([IntKind.wrap .u8 (Int.fdiv (IntKind.wrap .u64 (IntKind.wrap .u64 (v0.length : Int) * 8)) (2 ^ (min ((IntKind.wrap .u64 v3).toNat) 64)))] : List Int)).length) false), (4, AV.int .u64 (IntKind.wrap .u64 (IntKind.wrap .u64 (v0.length : Int) * 8))), (5, AV.int .i64 (IntKind.wrap .i64 (v3 - 8)))] [(1, .grow (List.map (AV.int .u8) (v4 ++ ([IntKind.wrap .u8 (Int.fdiv (IntKind.wrap .u64 (IntKind.wrap .u64 (v0.length : Int) * 8)) (2 ^ (min ((IntKind.wrap .u64 v3).toNat) 64)))] : List Int))))] 2 (by simp [h1, h2, h3_, h3__, h3q, h5, h5_, h6, h7] <;> omega) (by simp [h1, h2, h3_, h3__, h3q, h5, h5_, h6, h7]) (by simp) ?_
      refine Can.ren (m := 0) h0 [(0, 1)] [(3, AV.slc 0 0 1 ((v4 ++ ([IntKind.wrap .u8 (Int.fdiv (IntKind.wrap .u64 (IntKind.wrap .u64 (v0.length : Int) * 8)) (2 ^ (min ((IntKind.wrap .u64 v3).toNat) 64)))] : List Int)).length) false), (4, AV.int .u64 (IntKind.wrap .u64 (IntKind.wrap .u64 (v0.length : Int) * 8))), (5, AV.int .i64 (IntKind.wrap .i64 (v3 - 8)))] [(0, .grow (List.map (AV.int .u8) (v4 ++ ([IntKind.wrap .u8 (Int.fdiv (IntKind.wrap .u64 (IntKind.wrap .u64 (v0.length : Int) * 8)) (2 ^ (min ((IntKind.wrap .u64 v3).toNat) 64)))] : List Int))))] 1 (by decide) (by decide) (by decide) rfl (by simp [h1, h2, h3_, h3__, h3q, h5, h5_, h6, h7]) (by simp [h1, h2, h3_, h3__, h3q, h5, h5_, h6, h7]) ?_
      exact Can.next (k' := n2) ((IntKind.wrap .i64 (v3 - 8), v4 ++ ([IntKind.wrap .u8 (Int.fdiv (IntKind.wrap .u64 (IntKind.wrap .u64 (v0.length : Int) * 8)) (2 ^ (min ((IntKind.wrap .u64 v3).toNat) 64)))] : List Int))) (by omega) hF (by simp [h1, h2, h3_, h3__, h3q, h5, h5_, h6, h7]) (by simp [h1, h2, h3_, h3__, h3q, h5, h5_, h6, h7]) (by simp)
    · replace hF := ite_f h5 hF
      have h5_ := h5
      try simp at h5_
      refine AW.condF (by decide) (by first | (simp [h1, h2, h3_, h3__, h3q, h5, h5_]; done) | (simp [h1, h2, h3_, h3__, h3q, h5, h5_]; omega)) ?_
      refine AW.exit ?_
      try simp
      refine hK299 _ _ _ ?_
      refine AW.wk [(3, AV.slc 0 0 1 v4.length false)] [(0, .grow (List.map (AV.int .u8) v4))] 1 (by simp [h1, h2, h3_, h3__, h3q, h5, h5_]) (by simp [h1, h2, h3_, h3__, h3q, h5, h5_]) (by simp) ?_
      refine AW.frz 0 (o := .grow (List.map (AV.int .u8) v4)) (by simp [h1, h2, h3_, h3__, h3q, h5, h5_]) rfl [(3, AV.lst false false (List.map (AV.int .u8) v4))] [] ⟨(.l (by simp) (by simp) (by simp) (by simp)), trivial⟩ trivial ?_
      refine AW.wk [(3, AV.lst false false (List.map (AV.int .u8) v4))] [] 1 (by simp [h1, h2, h3_, h3__, h3q, h5, h5_]) (by simp [h1, h2, h3_, h3__, h3q, h5, h5_]) (by simp) ?_
      refine AW.seqR mixed [] [none, none, none, none, none, none] (by kernel_rfl) fun G330 R330 hG330 hR330 => ?_
      try simp [h1, h2, h3_, h3__, h3q, h5, h5_]
      repeat' apply And.intro
      try any_goals (first | omega | (unfold maxLen; omega) | (simp [h1, h2, h3_, h3__, h3q, h5, h5_]; done))
      obtain ⟨v5, h8, hF⟩ := bnd1_elim hF
      refine aCall_l (w_digest_rounds k _ h8) (by simp) [] [] [] rfl .nil (by simp [h1, h2, h3_, h3__, h3q, h5, h5_]) (by decide) (by simp) (by simp) (.inl rfl) (by simp) (by simp) ?_
      obtain ⟨h9, hF⟩ := chk_elim hF
      obtain ⟨h10, hF⟩ := chk_elim hF
      try simp [h1, h2, h3_, h3__, h3q, h5, h5_, h9, h10]
      repeat' apply And.intro
      any_goals (first | exact hG330 _ (by kernel_rfl) | refine hR330 _ _ _ ?_ | omega | (unfold maxLen; omega) | (simp [h1, h2, h3_, h3__, h3q, h5, h5_, h9, h10]; done) | (simp [h1, h2, h3_, h3__, h3q, h5, h5_, h9, h10]; omega))
      refine AW.wk [(3, AV.lst false false (List.map (AV.int .u8) v4)), (6, AV.ptr 1 0), (7, AV.ptr 2 0)] [(1, .cells (List.map (AV.int .u32) ([1779033703, 3144134277, 1013904242, 2773480762, 1359893119, 2600822924, 528734635, 1541459225] : List Int))), (2, .cells (List.map (AV.int .u32) v5))] 3 (by simp [h1, h2, h3_, h3__, h3q, h5, h5_, h9, h10]) (by simp [h1, h2, h3_, h3__, h3q, h5, h5_, h9, h10]) (by simp) ?_
      refine AW.seq fun K360 hK360 => ?_
      refine AW.block ?_
      refine AW.rnm (m := 0) h0 [(0, 1), (1, 2)] [(3, AV.lst false false (List.map (AV.int .u8) v4)), (6, AV.ptr 0 0), (7, AV.ptr 1 0)] [(0, .cells (List.map (AV.int .u32) ([1779033703, 3144134277, 1013904242, 2773480762, 1359893119, 2600822924, 528734635, 1541459225] : List Int))), (1, .cells (List.map (AV.int .u32) v5))] 2 (by decide) (by decide) (by decide) rfl (by simp [h1, h2, h3_, h3__, h3q, h5, h5_, h9, h10]) (by simp [h1, h2, h3_, h3__, h3q, h5, h5_, h9, h10]) ?_
      refine AW.loopF (α := ((List Int) × (List Int))) (fun n (v6, v7) => digest_Sum.L3 k v5 n v6 v7 = some v1) (fun (v6, v7) => [(3, AV.lst false false (List.map (AV.int .u8) v6)), (6, AV.ptr 0 0), (7, AV.ptr 1 0)]) (fun (v6, v7) => [(0, .cells (List.map (AV.int .u32) v7)), (1, .cells (List.map (AV.int .u32) v5))]) 2 k ((v4, ([1779033703, 3144134277, 1013904242, 2773480762, 1359893119, 2600822924, 528734635, 1541459225] : List Int))) hF (by simp [h1, h2, h3_, h3__, h3q, h5, h5_, h9, h10]) (by simp [h1, h2, h3_, h3__, h3q, h5, h5_, h9, h10]) (by simp) ?_
      rintro (_|n3) ⟨v6, v7⟩ hF K382 hK382
      · try dsimp only at hF
        rw [digest_Sum.L3] at hF; cases hF
      try dsimp only at hF
      rw [digest_Sum.L3] at hF
      refine AW.seq fun K384 hK384 => ?_
      refine AW.seqR mixed [] [none, none, none] (by kernel_rfl) fun G385 R385 hG385 hR385 => ?_
      try simp [h1, h2, h3_, h3__, h3q, h5, h5_, h9, h10]
      repeat' apply And.intro
      any_goals (first | exact hG385 _ (by kernel_rfl) | refine hR385 _ _ _ ?_ | omega | (unfold maxLen; omega) | (simp [h1, h2, h3_, h3__, h3q, h5, h5_, h9, h10]; done) | (simp [h1, h2, h3_, h3__, h3q, h5, h5_, h9, h10]; omega))
      refine AW.wk [(3, AV.lst false false (List.map (AV.int .u8) v6)), (6, AV.ptr 0 0), (7, AV.ptr 1 0), (42, AV.bool (decide (0 < (v6.length : Int))))] [(0, .cells (List.map (AV.int .u32) v7)), (1, .cells (List.map (AV.int .u32) v5))] 2 (by simp [h1, h2, h3_, h3__, h3q, h5, h5_, h9, h10]) (by simp [h1, h2, h3_, h3__, h3q, h5, h5_, h9, h10]) (by simp) ?_
      by_cases h11 : 0 < (v6.length : Int)
      · replace hF := ite_t h11 hF
        have h11_ := h11
        try simp at h11_
        refine AW.condT (by decide) (by first | (simp [h1, h2, h3_, h3__, h3q, h5, h5_, h9, h10, h11, h11_]; done) | (simp [h1, h2, h3_, h3__, h3q, h5, h5_, h9, h10, h11, h11_]; omega)) ?_
        refine AW.skip ?_
        refine hK384 _ _ _ ?_
        refine AW.seq fun K387 hK387 => ?_
        refine AW.block ?_
        refine AW.region mixed [] [none, none, none] (by kernel_rfl) fun G388 R388 hG388 hR388 => ?_
        obtain ⟨h12, hF⟩ := chk_elim hF
        have h12_ := h12
        try simp at h12_
        try simp [h1, h2, h3_, h3__, h3q, h5, h5_, h9, h10, h11, h11_, h12, h12_]
        repeat' apply And.intro
        try any_goals (first | omega | (unfold maxLen; omega) | (simp [h1, h2, h3_, h3__, h3q, h5, h5_, h9, h10, h11, h11_, h12, h12_]; done))
        obtain ⟨v8, h13, hF⟩ := bnd1_elim hF
        refine aCall_l (w_digest_state_block k _ _ _ _ h13) (by simp) [0, 1] [] [0] rfl (.cons (.same (by simp [h1, h2, h3_, h3__, h3q, h5, h5_, h9, h10, h11, h11_, h12, h12_])) (.cons (.same (by simp [h1, h2, h3_, h3__, h3q, h5, h5_, h9, h10, h11, h11_, h12, h12_])) (.cons (.same (by simp [h1, h2, h3_, h3__, h3q, h5, h5_, h9, h10, h11, h11_, h12, h12_])) .nil))) (by simp [h1, h2, h3_, h3__, h3q, h5, h5_, h9, h10, h11, h11_, h12, h12_]) (by decide) (by simp) (by simp) (.inl rfl) (by simp) (by simp) ?_
        try simp [h1, h2, h3_, h3__, h3q, h5, h5_, h9, h10, h11, h11_, h12, h12_]
        repeat' apply And.intro
        any_goals (first | exact hG388 _ (by kernel_rfl) | refine hR388 _ _ _ ?_ | omega | (unfold maxLen; omega) | (simp [h1, h2, h3_, h3__, h3q, h5, h5_, h9, h10, h11, h11_, h12, h12_]; done) | (simp [h1, h2, h3_, h3__, h3q, h5, h5_, h9, h10, h11, h11_, h12, h12_]; omega))
        refine hK387 _ _ _ ?_
        refine AW.wk [(3, AV.lst false false (List.map (AV.int .u8) v6)), (6, AV.ptr 0 0), (7, AV.ptr 1 0)] [(0, .cells (List.map (AV.int .u32) v8)), (1, .cells (List.map (AV.int .u32) v5))] 2 (by simp [h1, h2, h3_, h3__, h3q, h5, h5_, h9, h10, h11, h11_, h12, h12_]) (by simp [h1, h2, h3_, h3__, h3q, h5, h5_, h9, h10, h11, h11_, h12, h12_]) (by simp) ?_
        refine AW.region mixed [] [none, none, none] (by kernel_rfl) fun G389 R389 hG389 hR389 => ?_
        obtain ⟨h14, hF⟩ := chk_elim hF
        have h14_ := h14
        try simp at h14_
        try simp [h1, h2, h3_, h3__, h3q, h5, h5_, h9, h10, h11, h11_, h12, h12_, h14, h14_]
        repeat' apply And.intro
        any_goals (first | exact hG389 _ (by kernel_rfl) | refine hR389 _ _ _ ?_ | omega | (unfold maxLen; omega) | (simp [h1, h2, h3_, h3__, h3q, h5, h5_, h9, h10, h11, h11_, h12, h12_, h14, h14_]; done) | (simp [h1, h2, h3_, h3__, h3q, h5, h5_, h9, h10, h11, h11_, h12, h12_, h14, h14_]; omega))
        refine hK382 _ _ _ ?_
        refine Can.weak [(3, AV.lst false false (List.map (AV.int .u8) (v6.drop (64 : Int).toNat))), (6, AV.ptr 0 0), (7, AV.ptr 1 0)] [(0, .cells (List.map (AV.int .u32) v8)), (1, .cells (List.map (AV.int .u32) v5))] 2 (by simp [h1, h2, h3_, h3__, h3q, h5, h5_, h9, h10, h11, h11_, h12, h12_, h14, h14_]) (by simp [h1, h2, h3_, h3__, h3q, h5, h5_, h9, h10, h11, h11_, h12, h12_, h14, h14_]) (by simp) ?_
        exact Can.next (k' := n3) ((v6.drop (64 : Int).toNat, v8)) (by omega) hF (by simp [h1, h2, h3_, h3__, h3q, h5, h5_, h9, h10, h11, h11_, h12, h12_, h14, h14_]) (by simp [h1, h2, h3_, h3__, h3q, h5, h5_, h9, h10, h11, h11_, h12, h12_, h14, h14_]) (by simp)
      · replace hF := ite_f h11 hF
        have h11_ := h11
        try simp at h11_
        refine AW.condF (by decide) (by first | (simp [h1, h2, h3_, h3__, h3q, h5, h5_, h9, h10, h11, h11_]; done) | (simp [h1, h2, h3_, h3__, h3q, h5, h5_, h9, h10, h11, h11_]; omega)) ?_
        refine AW.exit ?_
        try simp
        refine hK360 _ _ _ ?_
        refine AW.seqR mixed [] [none] (by kernel_rfl) fun G390 R390 hG390 hR390 => ?_
        try simp [h1, h2, h3_, h3__, h3q, h5, h5_, h9, h10, h11, h11_]
        repeat' apply And.intro
        any_goals (first | exact hG390 _ (by kernel_rfl) | refine hR390 _ _ _ ?_ | omega | (unfold maxLen; omega) | (simp [h1, h2, h3_, h3__, h3q, h5, h5_, h9, h10, h11, h11_]; done) | (simp [h1, h2, h3_, h3__, h3q, h5, h5_, h9, h10, h11, h11_]; omega))
        refine AW.wk [(6, AV.ptr 0 0), (8, AV.lst true true (List.map (AV.int .u8) ([] : List Int)))] [(0, .cells (List.map (AV.int .u32) v7))] 2 (by simp [h1, h2, h3_, h3__, h3q, h5, h5_, h9, h10, h11, h11_]) (by simp [h1, h2, h3_, h3__, h3q, h5, h5_, h9, h10, h11, h11_]) (by simp) ?_
        refine AW.seq fun K425 hK425 => ?_
        refine AW.seqR mixed [] [none, none] (by kernel_rfl) fun G426 R426 hG426 hR426 => ?_
        -- array load
        obtain ⟨h15, hF⟩ := chk_elim hF
        have h15_ := ne_of_len h15 (by decide)
        try simp [h1, h2, h3_, h3__, h3q, h5, h5_, h9, h10, h11, h11_, h15, h15_]
        repeat' apply And.intro
        any_goals (first | exact hG426 _ (by kernel_rfl) | refine hR426 _ _ _ ?_ | omega | (unfold maxLen; omega) | (simp [h1, h2, h3_, h3__, h3q, h5, h5_, h9, h10, h11, h11_, h15, h15_]; done) | (simp [h1, h2, h3_, h3__, h3q, h5, h5_, h9, h10, h11, h11_, h15, h15_]; omega))
        refine AW.wk [(8, AV.lst true true (List.map (AV.int .u8) ([] : List Int))), (48, AV.agg (List.map (AV.int .u32) v7)), (49, AV.int .i64 0)] [] 2 (by simp [h1, h2, h3_, h3__, h3q, h5, h5_, h9, h10, h11, h11_, h15, h15_]) (by simp [h1, h2, h3_, h3__, h3q, h5, h5_, h9, h10, h11, h11_, h15, h15_]) (by simp) ?_
        refine AW.block ?_
        refine AW.own' 8 1 true (by simp [h1, h2, h3_, h3__, h3q, h5, h5_, h9, h10, h11, h11_, h15, h15_]) (by decide) ?_
        refine AW.rnm (m := 0) h0 [(0, 2)] [(8, AV.slc 0 0 1 (([] : List Int).length) false), (48, AV.agg (List.map (AV.int .u32) v7)), (49, AV.int .i64 0)] [(0, .grow (List.map (AV.int .u8) ([] : List Int)))] 1 (by decide) (by decide) (by decide) rfl (by simp [h1, h2, h3_, h3__, h3q, h5, h5_, h9, h10, h11, h11_, h15, h15_]) (by simp [h1, h2, h3_, h3__, h3q, h5, h5_, h9, h10, h11, h11_, h15, h15_]) ?_
        refine AW.loopF (α := (Int × (List Int))) (fun n (v9, v10) => digest_Sum.L4 k v7 n v9 v10 = some v1) (fun (v9, v10) => [(8, AV.slc 0 0 1 v10.length false), (48, AV.agg (List.map (AV.int .u32) v7)), (49, AV.int .i64 v9)]) (fun (v9, v10) => [(0, .grow (List.map (AV.int .u8) v10))]) 1 k ((0, ([] : List Int))) hF (by simp [h1, h2, h3_, h3__, h3q, h5, h5_, h9, h10, h11, h11_, h15, h15_]) (by simp [h1, h2, h3_, h3__, h3q, h5, h5_, h9, h10, h11, h11_, h15, h15_]) (by simp) ?_
        rintro (_|n4) ⟨v9, v10⟩ hF K451 hK451
        · try dsimp only at hF
          rw [digest_Sum.L4] at hF; cases hF
        try dsimp only at hF
        rw [digest_Sum.L4] at hF
        refine AW.seqR mixed [] [none] (by kernel_rfl) fun G452 R452 hG452 hR452 => ?_
        try simp [h1, h2, h3_, h3__, h3q, h5, h5_, h9, h10, h11, h11_, h15, h15_]
        repeat' apply And.intro
        any_goals (first | exact hG452 _ (by kernel_rfl) | refine hR452 _ _ _ ?_ | omega | (unfold maxLen; omega) | (simp [h1, h2, h3_, h3__, h3q, h5, h5_, h9, h10, h11, h11_, h15, h15_]; done) | (simp [h1, h2, h3_, h3__, h3q, h5, h5_, h9, h10, h11, h11_, h15, h15_]; omega))
        refine AW.wk [(8, AV.slc 0 0 1 v10.length false), (48, AV.agg (List.map (AV.int .u32) v7)), (49, AV.int .i64 v9), (50, AV.bool (decide (v9 < 8)))] [(0, .grow (List.map (AV.int .u8) v10))] 1 (by simp [h1, h2, h3_, h3__, h3q, h5, h5_, h9, h10, h11, h11_, h15, h15_]) (by simp [h1, h2, h3_, h3__, h3q, h5, h5_, h9, h10, h11, h11_, h15, h15_]) (by simp) ?_
        refine AW.seq fun K453 hK453 => ?_
        by_cases h16 : v9 < 8
        · replace hF := ite_t h16 hF
          have h16_ := h16
          try simp at h16_
          refine AW.condT (by decide) (by first | (simp [h1, h2, h3_, h3__, h3q, h5, h5_, h9, h10, h11, h11_, h15, h15_, h16, h16_]; done) | (simp [h1, h2, h3_, h3__, h3q, h5, h5_, h9, h10, h11, h11_, h15, h15_, h16, h16_]; omega)) ?_
          refine AW.skip ?_
          refine hK453 _ _ _ ?_
          refine AW.seq fun K456 hK456 => ?_
          refine AW.block ?_
          refine AW.seqR mixed [] [none, none] (by kernel_rfl) fun G457 R457 hG457 hR457 => ?_
          obtain ⟨h17, hF⟩ := chk_elim hF
          obtain ⟨v11, h18, h19, h20, hF⟩ := idx_elim hF
          have h20_ := get_of h20
          try simp at h20_
          have h19_ := h19
          try simp at h19_
          try simp [h1, h2, h3_, h3__, h3q, h5, h5_, h9, h10, h11, h11_, h15, h15_, h16, h16_, h17, h18, h19, h20, h20_, h19_]
          repeat' apply And.intro
          any_goals (first | exact hG457 _ (by kernel_rfl) | refine hR457 _ _ _ ?_ | omega | (unfold maxLen; omega) | (simp [h1, h2, h3_, h3__, h3q, h5, h5_, h9, h10, h11, h11_, h15, h15_, h16, h16_, h17, h18, h19, h20, h20_, h19_]; done) | (simp [h1, h2, h3_, h3__, h3q, h5, h5_, h9, h10, h11, h11_, h15, h15_, h16, h16_, h17, h18, h19, h20, h20_, h19_]; omega))
          refine AW.wk [(8, AV.slc 0 0 1 v10.length false), (10, AV.int .u32 v11), (48, AV.agg (List.map (AV.int .u32) v7)), (49, AV.int .i64 v9)] [(0, .grow (List.map (AV.int .u8) v10))] 1 (by simp [h1, h2, h3_, h3__, h3q, h5, h5_, h9, h10, h11, h11_, h15, h15_, h16, h16_, h17, h18, h19, h20, h20_, h19_]) (by simp [h1, h2, h3_, h3__, h3q, h5, h5_, h9, h10, h11, h11_, h15, h15_, h16, h16_, h17, h18, h19, h20, h20_, h19_]) (by simp) ?_
          refine AW.region mixed [] [none, none, none, none, none, none, none, none, none, none, none, none, none, none, none] (by kernel_rfl) fun G458 R458 hG458 hR458 => ?_
          obtain ⟨h21, hF⟩ := chk_elim hF
          have h21_ := h21
          try simp at h21_
          try simp [h1, h2, h3_, h3__, h3q, h5, h5_, h9, h10, h11, h11_, h15, h15_, h16, h16_, h17, h18, h19, h20, h20_, h19_, h21]
          repeat' apply And.intro
          any_goals (first | exact hG458 _ (by kernel_rfl) | refine hR458 _ _ _ ?_ | omega | (unfold maxLen; omega) | (simp [h1, h2, h3_, h3__, h3q, h5, h5_, h9, h10, h11, h11_, h15, h15_, h16, h16_, h17, h18, h19, h20, h20_, h19_, h21]; done) | (simp [h1, h2, h3_, h3__, h3q, h5, h5_, h9, h10, h11, h11_, h15, h15_, h16, h16_, h17, h18, h19, h20, h20_, h19_, h21]; omega))
          refine hK456 _ _ _ ?_
          refine AW.wk [(8, AV.slc 1 0 1 ((v10 ++ ([IntKind.wrap .u8 (Int.fdiv v11 (2 ^ (24))), IntKind.wrap .u8 (Int.fdiv v11 (2 ^ (16))), IntKind.wrap .u8 (Int.fdiv v11 (2 ^ (8))), IntKind.wrap .u8 v11] : List Int)).length) false), (48, AV.agg (List.map (AV.int .u32) v7)), (49, AV.int .i64 v9)] [(1, .grow (List.map (AV.int .u8) (v10 ++ ([IntKind.wrap .u8 (Int.fdiv v11 (2 ^ (24))), IntKind.wrap .u8 (Int.fdiv v11 (2 ^ (16))), IntKind.wrap .u8 (Int.fdiv v11 (2 ^ (8))), IntKind.wrap .u8 v11] : List Int))))] 2 (by simp [h1, h2, h3_, h3__, h3q, h5, h5_, h9, h10, h11, h11_, h15, h15_, h16, h16_, h17, h18, h19, h20, h20_, h19_, h21] <;> omega) (by simp [h1, h2, h3_, h3__, h3q, h5, h5_, h9, h10, h11, h11_, h15, h15_, h16, h16_, h17, h18, h19, h20, h20_, h19_, h21]) (by simp) ?_
          refine AW.region mixed [] [none, none] (by kernel_rfl) fun G459 R459 hG459 hR459 => ?_
          try simp [h1, h2, h3_, h3__, h3q, h5, h5_, h9, h10, h11, h11_, h15, h15_, h16, h16_, h17, h18, h19, h20, h20_, h19_, h21]
          repeat' apply And.intro
          any_goals (first | exact hG459 _ (by kernel_rfl) | refine hR459 _ _ _ ?_ | omega | (unfold maxLen; omega) | (simp [h1, h2, h3_, h3__, h3q, h5, h5_, h9, h10, h11, h11_, h15, h15_, h16, h16_, h17, h18, h19, h20, h20_, h19_, h21]; done) | (simp [h1, h2, h3_, h3__, h3q, h5, h5_, h9, h10, h11, h11_, h15, h15_, h16, h16_, h17, h18, h19, h20, h20_, h19_, h21]; omega))
          refine hK451 _ _ _ ?_
          refine Can.weak [(8, AV.slc 1 0 1 ((v10 ++ ([IntKind.wrap .u8 (Int.fdiv v11 (2 ^ (24))), IntKind.wrap .u8 (Int.fdiv v11 (2 ^ (16))), IntKind.wrap .u8 (Int.fdiv v11 (2 ^ (8))), IntKind.wrap .u8 v11] : List Int)).length) false), (48, AV.agg (List.map (AV.int .u32) v7)), (49, AV.int .i64 (IntKind.wrap .i64 (v9 + 1)))] [(1, .grow (List.map (AV.int .u8) (v10 ++ ([IntKind.wrap .u8 (Int.fdiv v11 (2 ^ (24))), IntKind.wrap .u8 (Int.fdiv v11 (2 ^ (16))), IntKind.wrap .u8 (Int.fdiv v11 (2 ^ (8))), IntKind.wrap .u8 v11] : List Int))))] 2 (by simp [h1, h2, h3_, h3__, h3q, h5, h5_, h9, h10, h11, h11_, h15, h15_, h16, h16_, h17, h18, h19, h20, h20_, h19_, h21] <;> omega) (by simp [h1, h2, h3_, h3__, h3q, h5, h5_, h9, h10, h11, h11_, h15, h15_, h16, h16_, h17, h18, h19, h20, h20_, h19_, h21]) (by simp) ?_
          refine Can.ren (m := 0) h0 [(0, 1)] [(8, AV.slc 0 0 1 ((v10 ++ ([IntKind.wrap .u8 (Int.fdiv v11 (2 ^ (24))), IntKind.wrap .u8 (Int.fdiv v11 (2 ^ (16))), IntKind.wrap .u8 (Int.fdiv v11 (2 ^ (8))), IntKind.wrap .u8 v11] : List Int)).length) false), (48, AV.agg (List.map (AV.int .u32) v7)), (49, AV.int .i64 (IntKind.wrap .i64 (v9 + 1)))] [(0, .grow (List.map (AV.int .u8) (v10 ++ ([IntKind.wrap .u8 (Int.fdiv v11 (2 ^ (24))), IntKind.wrap .u8 (Int.fdiv v11 (2 ^ (16))), IntKind.wrap .u8 (Int.fdiv v11 (2 ^ (8))), IntKind.wrap .u8 v11] : List Int))))] 1 (by decide) (by decide) (by decide) rfl (by simp [h1, h2, h3_, h3__, h3q, h5, h5_, h9, h10, h11, h11_, h15, h15_, h16, h16_, h17, h18, h19, h20, h20_, h19_, h21]) (by simp [h1, h2, h3_, h3__, h3q, h5, h5_, h9, h10, h11, h11_, h15, h15_, h16, h16_, h17, h18, h19, h20, h20_, h19_, h21]) ?_
          exact Can.next (k' := n4) ((IntKind.wrap .i64 (v9 + 1), v10 ++ ([IntKind.wrap .u8 (Int.fdiv v11 (2 ^ (24))), IntKind.wrap .u8 (Int.fdiv v11 (2 ^ (16))), IntKind.wrap .u8 (Int.fdiv v11 (2 ^ (8))), IntKind.wrap .u8 v11] : List Int))) (by omega) hF (by simp [h1, h2, h3_, h3__, h3q, h5, h5_, h9, h10, h11, h11_, h15, h15_, h16, h16_, h17, h18, h19, h20, h20_, h19_, h21]) (by simp [h1, h2, h3_, h3__, h3q, h5, h5_, h9, h10, h11, h11_, h15, h15_, h16, h16_, h17, h18, h19, h20, h20_, h19_, h21]) (by simp)
        · replace hF := ite_f h16 hF
          have h16_ := h16
          try simp at h16_
          refine AW.condF (by decide) (by first | (simp [h1, h2, h3_, h3__, h3q, h5, h5_, h9, h10, h11, h11_, h15, h15_, h16, h16_]; done) | (simp [h1, h2, h3_, h3__, h3q, h5, h5_, h9, h10, h11, h11_, h15, h15_, h16, h16_]; omega)) ?_
          refine AW.exit ?_
          try simp
          refine hK425 _ _ _ ?_
          refine AW.wk [(8, AV.slc 0 0 1 v10.length false)] [(0, .grow (List.map (AV.int .u8) v10))] 1 (by simp [h1, h2, h3_, h3__, h3q, h5, h5_, h9, h10, h11, h11_, h15, h15_, h16, h16_]) (by simp [h1, h2, h3_, h3__, h3q, h5, h5_, h9, h10, h11, h11_, h15, h15_, h16, h16_]) (by simp) ?_
          refine AW.frz 0 (o := .grow (List.map (AV.int .u8) v10)) (by simp [h1, h2, h3_, h3__, h3q, h5, h5_, h9, h10, h11, h11_, h15, h15_, h16, h16_]) rfl [(8, AV.lst false false (List.map (AV.int .u8) v10))] [] ⟨(.l (by simp) (by simp) (by simp) (by simp)), trivial⟩ trivial ?_
          refine AW.wk [(8, AV.lst false false (List.map (AV.int .u8) v10))] [] 1 (by simp [h1, h2, h3_, h3__, h3q, h5, h5_, h9, h10, h11, h11_, h15, h15_, h16, h16_]) (by simp [h1, h2, h3_, h3__, h3q, h5, h5_, h9, h10, h11, h11_, h15, h15_, h16, h16_]) (by simp) ?_
          refine AW.seqR mixed [] [none, none, none] (by kernel_rfl) fun G460 R460 hG460 hR460 => ?_
          try simp [h1, h2, h3_, h3__, h3q, h5, h5_, h9, h10, h11, h11_, h15, h15_, h16, h16_]
          repeat' apply And.intro
          any_goals (first | exact hG460 _ (by kernel_rfl) | refine hR460 _ _ _ ?_ | omega | (unfold maxLen; omega) | (simp [h1, h2, h3_, h3__, h3q, h5, h5_, h9, h10, h11, h11_, h15, h15_, h16, h16_]; done) | (simp [h1, h2, h3_, h3__, h3q, h5, h5_, h9, h10, h11, h11_, h15, h15_, h16, h16_]; omega))
          refine AW.wk [(2, AV.str (ofI v10))] [] 1 (by simp [h1, h2, h3_, h3__, h3q, h5, h5_, h9, h10, h11, h11_, h15, h15_, h16, h16_]) (by simp [h1, h2, h3_, h3__, h3q, h5, h5_, h9, h10, h11, h11_, h15, h15_, h16, h16_]) (by simp) ?_
          simp only [Option.some.injEq] at hF
          subst hF
          refine AW.ret (hQ _ _ _ ?_ (matchO_0 ?_)).1
          · simp [Try.f14, h1, h2, h3_, h3__, h3q, h5, h5_, h9, h10, h11, h11_, h15, h15_, h16, h16_]
          · simp [h1, h2, h3_, h3__, h3q, h5, h5_, h9, h10, h11, h11_, h15, h15_, h16, h16_]
set_option maxHeartbeats 4000000 in
theorem w_beacon_Numbers (k : Nat) (v0 : ByteArray) (v1 : (List Int)) (v2 : Int) (v3 : (List Int)) (v4 : Int) (hF : beacon_Numbers k v0 v1 v2 = some (v3, v4)) :
    FCall Try.prog 41 [AV.str v0, AV.lst false false (List.map (AV.int .i64) v1), AV.int .i64 v2] [] (AV.tup [AV.slc 0 0 1 v3.length false, AV.int .i64 v4]) [some (.grow (List.map (AV.int .i64) v3))] := by
  unfold beacon_Numbers at hF
  refine FCall.enter Try.func41 rfl (by simp) (by decide) (by simp) (by simp) (by simp) (by simp) (by simp) ?_
  intro c0 w0 Q h0 hQ
  refine AW.wk [(0, AV.str v0), (1, AV.lst false false (List.map (AV.int .i64) v1)), (2, AV.int .i64 v2)] [] 0 (by simp) (by simp) (by simp) ?_
  refine AW.seqR mixed [] [none, none] (by kernel_rfl) fun G1225 R1225 hG1225 hR1225 => ?_
  try simp
  repeat' apply And.intro
  any_goals (first | exact hG1225 _ (by kernel_rfl) | refine hR1225 _ _ _ ?_ | omega | (unfold maxLen; omega) | (simp; done) | (simp; omega))
  refine AW.wk [(0, AV.str v0), (1, AV.lst false false (List.map (AV.int .i64) v1)), (2, AV.int .i64 v2)] [] 0 (by simp) (by simp) (by simp) ?_
  refine AW.seq fun K1233 hK1233 => ?_
  refine AW.block ?_
  refine AW.seqR mixed [] [none, none, none, none] (by kernel_rfl) fun G1234 R1234 hG1234 hR1234 => ?_
  try simp
  repeat' apply And.intro
  any_goals (first | exact hG1234 _ (by kernel_rfl) | refine hR1234 _ _ _ ?_ | omega | (unfold maxLen; omega) | (simp; done) | (simp; omega))
  refine AW.wk [(0, AV.str v0), (1, AV.lst false false (List.map (AV.int .i64) v1)), (2, AV.int .i64 v2), (14, AV.bool ((v0.size : Int) != 32))] [] 0 (by simp) (by simp) (by simp) ?_
  by_cases h1 : (v0.size : Int) ≠ 32
  · replace hF := ite_t h1 hF
    have h1_ := eqb_f h1
    have h1__ := neb_t h1
    refine AW.condT (by decide) (by first | (simp [h1, h1_, h1__]; done) | (simp [h1, h1_, h1__]; omega)) ?_
    refine AW.seqR mixed [] [none, none] (by kernel_rfl) fun G1235 R1235 hG1235 hR1235 => ?_
    try simp [h1, h1_, h1__]
    repeat' apply And.intro
    any_goals (first | exact hG1235 _ (by kernel_rfl) | refine hR1235 _ _ _ ?_ | omega | (unfold maxLen; omega) | (simp [h1, h1_, h1__]; done) | (simp [h1, h1_, h1__]; omega))
    refine AW.wk [(6, AV.lst true true (List.map (AV.int .i64) ([] : List Int))), (7, AV.int .i64 1)] [] 0 (by simp [h1, h1_, h1__]) (by simp [h1, h1_, h1__]) (by simp) ?_
    refine AW.own' 6 1 true (by simp [h1, h1_, h1__]) (by decide) ?_
    simp only [Option.some.injEq, Prod.mk.injEq] at hF
    obtain ⟨e0, e1⟩ := hF
    subst e0 e1
    refine AW.ret (hQ _ _ _ ?_ (matchO_0 ?_)).1
    · simp [Try.f41, h1, h1_, h1__]
    · simp [h1, h1_, h1__]
  · replace hF := ite_f h1 hF
    have h1q : (v0.size : Int) = 32 := Classical.not_not.1 h1
    have h1_ := eqb_t h1q
    have h1__ := neb_f h1q
    refine AW.condF (by decide) (by first | (simp [h1_, h1__, h1q]; done) | (simp [h1_, h1__, h1q]; omega)) ?_
    refine AW.seqR mixed [] [none, none, none, none] (by kernel_rfl) fun G1236 R1236 hG1236 hR1236 => ?_
    try simp [h1_, h1__, h1q]
    repeat' apply And.intro
    any_goals (first | exact hG1236 _ (by kernel_rfl) | refine hR1236 _ _ _ ?_ | omega | (unfold maxLen; omega) | (simp [h1_, h1__, h1q]; done) | (simp [h1_, h1__, h1q]; omega))
    refine AW.wk [(0, AV.str v0), (1, AV.lst false false (List.map (AV.int .i64) v1)), (2, AV.int .i64 v2), (18, AV.bool (decide (64 < (v1.length : Int))))] [] 0 (by simp [h1_, h1__, h1q]) (by simp [h1_, h1__, h1q]) (by simp) ?_
    by_cases h2 : 64 < (v1.length : Int)
    · replace hF := ite_t h2 hF
      have h2_ := h2
      try simp at h2_
      refine AW.condT (by decide) (by first | (simp [h1_, h1__, h1q, h2, h2_]; done) | (simp [h1_, h1__, h1q, h2, h2_]; omega)) ?_
      refine AW.seqR mixed [] [none, none] (by kernel_rfl) fun G1237 R1237 hG1237 hR1237 => ?_
      try simp [h1_, h1__, h1q, h2, h2_]
      repeat' apply And.intro
      any_goals (first | exact hG1237 _ (by kernel_rfl) | refine hR1237 _ _ _ ?_ | omega | (unfold maxLen; omega) | (simp [h1_, h1__, h1q, h2, h2_]; done) | (simp [h1_, h1__, h1q, h2, h2_]; omega))
      refine AW.wk [(6, AV.lst true true (List.map (AV.int .i64) ([] : List Int))), (7, AV.int .i64 3)] [] 0 (by simp [h1_, h1__, h1q, h2, h2_]) (by simp [h1_, h1__, h1q, h2, h2_]) (by simp) ?_
      refine AW.own' 6 1 true (by simp [h1_, h1__, h1q, h2, h2_]) (by decide) ?_
      simp only [Option.some.injEq, Prod.mk.injEq] at hF
      obtain ⟨e0, e1⟩ := hF
      subst e0 e1
      refine AW.ret (hQ _ _ _ ?_ (matchO_0 ?_)).1
      · simp [Try.f41, h1_, h1__, h1q, h2, h2_]
      · simp [h1_, h1__, h1q, h2, h2_]
    · replace hF := ite_f h2 hF
      have h2_ := h2
      try simp at h2_
      refine AW.condF (by decide) (by first | (simp [h1_, h1__, h1q, h2, h2_]; done) | (simp [h1_, h1__, h1q, h2, h2_]; omega)) ?_
      refine AW.seqR mixed [] [none, none, none, some (25, false), some (25, false), none, none] (by kernel_rfl) fun G1238 R1238 hG1238 hR1238 => ?_
      by_cases h3 : v2 < 0
      · replace hF := ite_t h3 hF
        have h3_ := h3
        try simp at h3_
        try simp [h1_, h1__, h1q, h2, h2_, h3, h3_]
        repeat' apply And.intro
        any_goals (first | exact hG1238 _ (by kernel_rfl) | refine hR1238 _ _ _ ?_ | omega | (unfold maxLen; omega) | (simp [h1_, h1__, h1q, h2, h2_, h3, h3_]; done) | (simp [h1_, h1__, h1q, h2, h2_, h3, h3_]; omega))
        refine AW.wk [(0, AV.str v0), (1, AV.lst false false (List.map (AV.int .i64) v1)), (2, AV.int .i64 v2), (22, AV.bool true)] [] 0 (by simp [h1_, h1__, h1q, h2, h2_, h3, h3_]) (by simp [h1_, h1__, h1q, h2, h2_, h3, h3_]) (by simp) ?_
        refine AW.condT (by decide) (by simp [h1_, h1__, h1q, h2, h2_, h3, h3_]) ?_
        refine AW.seqR mixed [] [none, none] (by kernel_rfl) fun G1239 R1239 hG1239 hR1239 => ?_
        try simp [h1_, h1__, h1q, h2, h2_, h3, h3_]
        repeat' apply And.intro
        any_goals (first | exact hG1239 _ (by kernel_rfl) | refine hR1239 _ _ _ ?_ | omega | (unfold maxLen; omega) | (simp [h1_, h1__, h1q, h2, h2_, h3, h3_]; done) | (simp [h1_, h1__, h1q, h2, h2_, h3, h3_]; omega))
        refine AW.wk [(6, AV.lst true true (List.map (AV.int .i64) ([] : List Int))), (7, AV.int .i64 2)] [] 0 (by simp [h1_, h1__, h1q, h2, h2_, h3, h3_]) (by simp [h1_, h1__, h1q, h2, h2_, h3, h3_]) (by simp) ?_
        refine AW.own' 6 1 true (by simp [h1_, h1__, h1q, h2, h2_, h3, h3_]) (by decide) ?_
        simp only [Option.some.injEq, Prod.mk.injEq] at hF
        obtain ⟨e0, e1⟩ := hF
        subst e0 e1
        refine AW.ret (hQ _ _ _ ?_ (matchO_0 ?_)).1
        · simp [Try.f41, h1_, h1__, h1q, h2, h2_, h3, h3_]
        · simp [h1_, h1__, h1q, h2, h2_, h3, h3_]
      · replace hF := ite_f h3 hF
        have h3_ := h3
        try simp at h3_
        try simp [h1_, h1__, h1q, h2, h2_, h3, h3_]
        repeat' apply And.intro
        any_goals (first | exact hG1238 _ (by kernel_rfl) | refine hR1238 _ _ _ ?_ | omega | (unfold maxLen; omega) | (simp [h1_, h1__, h1q, h2, h2_, h3, h3_]; done) | (simp [h1_, h1__, h1q, h2, h2_, h3, h3_]; omega))
        refine AW.wk [(0, AV.str v0), (1, AV.lst false false (List.map (AV.int .i64) v1)), (2, AV.int .i64 v2), (22, AV.bool (decide (64 < v2)))] [] 0 (by simp [h1_, h1__, h1q, h2, h2_, h3, h3_]) (by simp [h1_, h1__, h1q, h2, h2_, h3, h3_]) (by simp) ?_
        by_cases h4 : 64 < v2
        · replace hF := ite_t h4 hF
          have h4_ := h4
          try simp at h4_
          refine AW.condT (by decide) (by first | (simp [h1_, h1__, h1q, h2, h2_, h3, h3_, h4, h4_]; done) | (simp [h1_, h1__, h1q, h2, h2_, h3, h3_, h4, h4_]; omega)) ?_
          refine AW.seqR mixed [] [none, none] (by kernel_rfl) fun G1240 R1240 hG1240 hR1240 => ?_
          try simp [h1_, h1__, h1q, h2, h2_, h3, h3_, h4, h4_]
          repeat' apply And.intro
          any_goals (first | exact hG1240 _ (by kernel_rfl) | refine hR1240 _ _ _ ?_ | omega | (unfold maxLen; omega) | (simp [h1_, h1__, h1q, h2, h2_, h3, h3_, h4, h4_]; done) | (simp [h1_, h1__, h1q, h2, h2_, h3, h3_, h4, h4_]; omega))
          refine AW.wk [(6, AV.lst true true (List.map (AV.int .i64) ([] : List Int))), (7, AV.int .i64 2)] [] 0 (by simp [h1_, h1__, h1q, h2, h2_, h3, h3_, h4, h4_]) (by simp [h1_, h1__, h1q, h2, h2_, h3, h3_, h4, h4_]) (by simp) ?_
          refine AW.own' 6 1 true (by simp [h1_, h1__, h1q, h2, h2_, h3, h3_, h4, h4_]) (by decide) ?_
          simp only [Option.some.injEq, Prod.mk.injEq] at hF
          obtain ⟨e0, e1⟩ := hF
          subst e0 e1
          refine AW.ret (hQ _ _ _ ?_ (matchO_0 ?_)).1
          · simp [Try.f41, h1_, h1__, h1q, h2, h2_, h3, h3_, h4, h4_]
          · simp [h1_, h1__, h1q, h2, h2_, h3, h3_, h4, h4_]
        · replace hF := ite_f h4 hF
          have h4_ := h4
          try simp at h4_
          refine AW.condF (by decide) (by first | (simp [h1_, h1__, h1q, h2, h2_, h3, h3_, h4, h4_]; done) | (simp [h1_, h1__, h1q, h2, h2_, h3, h3_, h4, h4_]; omega)) ?_
          refine AW.skip ?_
          refine hK1233 _ _ _ ?_
          refine AW.seqR mixed [] [none] (by kernel_rfl) fun G1241 R1241 hG1241 hR1241 => ?_
          try simp [h1_, h1__, h1q, h2, h2_, h3, h3_, h4, h4_]
          repeat' apply And.intro
          any_goals (first | exact hG1241 _ (by kernel_rfl) | refine hR1241 _ _ _ ?_ | omega | (unfold maxLen; omega) | (simp [h1_, h1__, h1q, h2, h2_, h3, h3_, h4, h4_]; done) | (simp [h1_, h1__, h1q, h2, h2_, h3, h3_, h4, h4_]; omega))
          refine AW.wk [(0, AV.str v0), (1, AV.lst false false (List.map (AV.int .i64) v1)), (2, AV.int .i64 v2), (8, AV.lst true true (List.map (AV.int .i64) ([] : List Int)))] [] 0 (by simp [h1_, h1__, h1q, h2, h2_, h3, h3_, h4, h4_]) (by simp [h1_, h1__, h1q, h2, h2_, h3, h3_, h4, h4_]) (by simp) ?_
          refine AW.seqR mixed [30] [none, none, none, none, none] (by kernel_rfl) fun G1242 R1242 hG1242 hR1242 => ?_
          try simp [h1_, h1__, h1q, h2, h2_, h3, h3_, h4, h4_]
          repeat' apply And.intro
          try any_goals (first | omega | (unfold maxLen; omega) | (simp [h1_, h1__, h1q, h2, h2_, h3, h3_, h4, h4_]; done))
          obtain ⟨v5, h5, hF⟩ := bnd1_elim hF
          refine aCall_l (w_beacon_list k _ _ _ h5) (by simp) [0] [] [0] rfl (.cons (.same (by simp [h1_, h1__, h1q, h2, h2_, h3, h3_, h4, h4_])) (.cons (.same (by simp [h1_, h1__, h1q, h2, h2_, h3, h3_, h4, h4_])) .nil)) (by simp [h1_, h1__, h1q, h2, h2_, h3, h3_, h4, h4_]) (by decide) (by simp) (by simp) (.inl rfl) (by simp) (by simp) ?_
          try simp [h1_, h1__, h1q, h2, h2_, h3, h3_, h4, h4_]
          repeat' apply And.intro
          any_goals (first | exact hG1242 _ (by kernel_rfl) | refine hR1242 _ _ _ ?_ | omega | (unfold maxLen; omega) | (simp [h1_, h1__, h1q, h2, h2_, h3, h3_, h4, h4_]; done) | (simp [h1_, h1__, h1q, h2, h2_, h3, h3_, h4, h4_]; omega))
          refine AW.wk [(2, AV.int .i64 v2), (8, AV.lst true true (List.map (AV.int .i64) ([] : List Int))), (9, AV.slc 1 0 1 v5.length false)] [(1, .cells (List.map (AV.int .u8) v5))] 2 (by simp [h1_, h1__, h1q, h2, h2_, h3, h3_, h4, h4_]) (by simp [h1_, h1__, h1q, h2, h2_, h3, h3_, h4, h4_]) (by simp) ?_
          refine AW.frz 1 (o := .cells (List.map (AV.int .u8) v5)) (by simp [h1_, h1__, h1q, h2, h2_, h3, h3_, h4, h4_]) rfl [(9, AV.lst false false (List.map (AV.int .u8) v5))] [] ⟨(.l (by simp) (by simp) (by simp) (by simp)), trivial⟩ trivial ?_
          refine AW.wk [(2, AV.int .i64 v2), (8, AV.lst true true (List.map (AV.int .i64) ([] : List Int))), (9, AV.lst false false (List.map (AV.int .u8) v5))] [] 2 (by simp [h1_, h1__, h1q, h2, h2_, h3, h3_, h4, h4_]) (by simp [h1_, h1__, h1q, h2, h2_, h3, h3_, h4, h4_]) (by simp) ?_
          refine AW.seq fun K1845 hK1845 => ?_
          refine AW.seqR mixed [] [none, none] (by kernel_rfl) fun G1846 R1846 hG1846 hR1846 => ?_
          try simp [h1_, h1__, h1q, h2, h2_, h3, h3_, h4, h4_]
          repeat' apply And.intro
          any_goals (first | exact hG1846 _ (by kernel_rfl) | refine hR1846 _ _ _ ?_ | omega | (unfold maxLen; omega) | (simp [h1_, h1__, h1q, h2, h2_, h3, h3_, h4, h4_]; done) | (simp [h1_, h1__, h1q, h2, h2_, h3, h3_, h4, h4_]; omega))
          refine AW.wk [(8, AV.lst true true (List.map (AV.int .i64) ([] : List Int))), (9, AV.lst false false (List.map (AV.int .u8) v5)), (33, AV.int .i64 v2), (34, AV.int .i64 0)] [] 2 (by simp [h1_, h1__, h1q, h2, h2_, h3, h3_, h4, h4_]) (by simp [h1_, h1__, h1q, h2, h2_, h3, h3_, h4, h4_]) (by simp) ?_
          refine AW.block ?_
          refine AW.own' 8 1 true (by simp [h1_, h1__, h1q, h2, h2_, h3, h3_, h4, h4_]) (by decide) ?_
          refine AW.rnm (m := 0) h0 [(0, 2)] [(8, AV.slc 0 0 1 (([] : List Int).length) false), (9, AV.lst false false (List.map (AV.int .u8) v5)), (33, AV.int .i64 v2), (34, AV.int .i64 0)] [(0, .grow (List.map (AV.int .i64) ([] : List Int)))] 1 (by decide) (by decide) (by decide) rfl (by simp [h1_, h1__, h1q, h2, h2_, h3, h3_, h4, h4_]) (by simp [h1_, h1__, h1q, h2, h2_, h3, h3_, h4, h4_]) ?_
          refine AW.loopF (α := (Int × (List Int))) (fun n (v6, v7) => beacon_Numbers.L1 k v2 v5 n v6 v7 = some (v3, v4)) (fun (v6, v7) => [(8, AV.slc 0 0 1 v7.length false), (9, AV.lst false false (List.map (AV.int .u8) v5)), (33, AV.int .i64 v2), (34, AV.int .i64 v6)]) (fun (v6, v7) => [(0, .grow (List.map (AV.int .i64) v7))]) 1 k ((0, ([] : List Int))) hF (by simp [h1_, h1__, h1q, h2, h2_, h3, h3_, h4, h4_]) (by simp [h1_, h1__, h1q, h2, h2_, h3, h3_, h4, h4_]) (by simp) ?_
          rintro (_|n1) ⟨v6, v7⟩ hF K2297 hK2297
          · try dsimp only at hF
            rw [beacon_Numbers.L1] at hF; cases hF
          try dsimp only at hF
          rw [beacon_Numbers.L1] at hF
          refine AW.seqR mixed [] [none] (by kernel_rfl) fun G2298 R2298 hG2298 hR2298 => ?_
          try simp [h1_, h1__, h1q, h2, h2_, h3, h3_, h4, h4_]
          repeat' apply And.intro
          any_goals (first | exact hG2298 _ (by kernel_rfl) | refine hR2298 _ _ _ ?_ | omega | (unfold maxLen; omega) | (simp [h1_, h1__, h1q, h2, h2_, h3, h3_, h4, h4_]; done) | (simp [h1_, h1__, h1q, h2, h2_, h3, h3_, h4, h4_]; omega))
          refine AW.wk [(8, AV.slc 0 0 1 v7.length false), (9, AV.lst false false (List.map (AV.int .u8) v5)), (33, AV.int .i64 v2), (34, AV.int .i64 v6), (35, AV.bool (decide (v6 < v2)))] [(0, .grow (List.map (AV.int .i64) v7))] 1 (by simp [h1_, h1__, h1q, h2, h2_, h3, h3_, h4, h4_]) (by simp [h1_, h1__, h1q, h2, h2_, h3, h3_, h4, h4_]) (by simp) ?_
          refine AW.seq fun K2299 hK2299 => ?_
          by_cases h6 : v6 < v2
          · replace hF := ite_t h6 hF
            have h6_ := h6
            try simp at h6_
            refine AW.condT (by decide) (by first | (simp [h1_, h1__, h1q, h2, h2_, h3, h3_, h4, h4_, h6, h6_]; done) | (simp [h1_, h1__, h1q, h2, h2_, h3, h3_, h4, h4_, h6, h6_]; omega)) ?_
            refine AW.skip ?_
            refine hK2299 _ _ _ ?_
            refine AW.seq fun K2373 hK2373 => ?_
            refine AW.block ?_
            refine AW.seqR mixed [] [none, none] (by kernel_rfl) fun G2374 R2374 hG2374 hR2374 => ?_
            try simp [h1_, h1__, h1q, h2, h2_, h3, h3_, h4, h4_, h6, h6_]
            repeat' apply And.intro
            any_goals (first | exact hG2374 _ (by kernel_rfl) | refine hR2374 _ _ _ ?_ | omega | (unfold maxLen; omega) | (simp [h1_, h1__, h1q, h2, h2_, h3, h3_, h4, h4_, h6, h6_]; done) | (simp [h1_, h1__, h1q, h2, h2_, h3, h3_, h4, h4_, h6, h6_]; omega))
            refine AW.wk [(8, AV.slc 0 0 1 v7.length false), (9, AV.lst false false (List.map (AV.int .u8) v5)), (10, AV.int .i64 v6), (33, AV.int .i64 v2), (34, AV.int .i64 v6)] [(0, .grow (List.map (AV.int .i64) v7))] 1 (by simp [h1_, h1__, h1q, h2, h2_, h3, h3_, h4, h4_, h6, h6_]) (by simp [h1_, h1__, h1q, h2, h2_, h3, h3_, h4, h4_, h6, h6_]) (by simp) ?_
            refine AW.seqR mixed [] [none, none, none, none, none, none, none, none, none, none, none] (by kernel_rfl) fun G2375 R2375 hG2375 hR2375 => ?_
            obtain ⟨⟨h7, h8⟩, hF⟩ := chk_elim hF
            have h7_ := h7
            try simp at h7_
            have h8_ := h8
            try simp at h8_
            try simp [h1_, h1__, h1q, h2, h2_, h3, h3_, h4, h4_, h6, h6_, h7, h8, h7_, h8_]
            repeat' apply And.intro
            try any_goals (first | omega | (unfold maxLen; omega) | (simp [h1_, h1__, h1q, h2, h2_, h3, h3_, h4, h4_, h6, h6_, h7, h8, h7_, h8_]; done))
            obtain ⟨v8, h9, hF⟩ := bnd1_elim hF
            refine aCall_l (w_beacon_bytes_v2 k _ _ _ h9) (by simp) [] [] [] rfl (.cons (.same (by simp [h1_, h1__, h1q, h2, h2_, h3, h3_, h4, h4_, h6, h6_, h7, h8, h7_, h8_])) (.cons (Coe.fl (by simp [h1_, h1__, h1q, h2, h2_, h3, h3_, h4, h4_, h6, h6_, h7, h8, h7_, h8_])) .nil)) (by simp [h1_, h1__, h1q, h2, h2_, h3, h3_, h4, h4_, h6, h6_, h7, h8, h7_, h8_]) (by decide) (by simp) (by simp) (.inl rfl) (by simp) (by simp) ?_
            try simp [h1_, h1__, h1q, h2, h2_, h3, h3_, h4, h4_, h6, h6_, h7, h8, h7_, h8_]
            repeat' apply And.intro
            try any_goals (first | omega | (unfold maxLen; omega) | (simp [h1_, h1__, h1q, h2, h2_, h3, h3_, h4, h4_, h6, h6_, h7, h8, h7_, h8_]; done))
            obtain ⟨v9, h10, hF⟩ := bnd1_elim hF
            refine aCall_l (w_digest_Sum k _ _ h10) (by simp) [] [] [] rfl (.cons (.same (by simp [h1_, h1__, h1q, h2, h2_, h3, h3_, h4, h4_, h6, h6_, h7, h8, h7_, h8_])) .nil) (by simp [h1_, h1__, h1q, h2, h2_, h3, h3_, h4, h4_, h6, h6_, h7, h8, h7_, h8_]) (by decide) (by simp) (by simp) (.inl rfl) (by simp) (by simp) ?_
            try simp [h1_, h1__, h1q, h2, h2_, h3, h3_, h4, h4_, h6, h6_, h7, h8, h7_, h8_]
            repeat' apply And.intro
            any_goals (first | exact hG2375 _ (by kernel_rfl) | refine hR2375 _ _ _ ?_ | omega | (unfold maxLen; omega) | (simp [h1_, h1__, h1q, h2, h2_, h3, h3_, h4, h4_, h6, h6_, h7, h8, h7_, h8_]; done) | (simp [h1_, h1__, h1q, h2, h2_, h3, h3_, h4, h4_, h6, h6_, h7, h8, h7_, h8_]; omega))
            refine AW.wk [(8, AV.slc 0 0 1 v7.length false), (9, AV.lst false false (List.map (AV.int .u8) v5)), (11, AV.str v9), (33, AV.int .i64 v2), (34, AV.int .i64 v6)] [(0, .grow (List.map (AV.int .i64) v7))] 1 (by simp [h1_, h1__, h1q, h2, h2_, h3, h3_, h4, h4_, h6, h6_, h7, h8, h7_, h8_]) (by simp [h1_, h1__, h1q, h2, h2_, h3, h3_, h4, h4_, h6, h6_, h7, h8, h7_, h8_]) (by simp) ?_
            refine AW.seqR mixed [] [none] (by kernel_rfl) fun G2376 R2376 hG2376 hR2376 => ?_
            try simp [h1_, h1__, h1q, h2, h2_, h3, h3_, h4, h4_, h6, h6_, h7, h8, h7_, h8_]
            repeat' apply And.intro
            any_goals (first | exact hG2376 _ (by kernel_rfl) | refine hR2376 _ _ _ ?_ | omega | (unfold maxLen; omega) | (simp [h1_, h1__, h1q, h2, h2_, h3, h3_, h4, h4_, h6, h6_, h7, h8, h7_, h8_]; done) | (simp [h1_, h1__, h1q, h2, h2_, h3, h3_, h4, h4_, h6, h6_, h7, h8, h7_, h8_]; omega))
            refine AW.wk [(8, AV.slc 0 0 1 v7.length false), (9, AV.lst false false (List.map (AV.int .u8) v5)), (11, AV.str v9), (12, AV.int .i64 0), (33, AV.int .i64 v2), (34, AV.int .i64 v6)] [(0, .grow (List.map (AV.int .i64) v7))] 1 (by simp [h1_, h1__, h1q, h2, h2_, h3, h3_, h4, h4_, h6, h6_, h7, h8, h7_, h8_]) (by simp [h1_, h1__, h1q, h2, h2_, h3, h3_, h4, h4_, h6, h6_, h7, h8, h7_, h8_]) (by simp) ?_
            refine AW.seq fun K2411 hK2411 => ?_
            refine AW.seqR mixed [] [none] (by kernel_rfl) fun G2412 R2412 hG2412 hR2412 => ?_
            try simp [h1_, h1__, h1q, h2, h2_, h3, h3_, h4, h4_, h6, h6_, h7, h8, h7_, h8_]
            repeat' apply And.intro
            any_goals (first | exact hG2412 _ (by kernel_rfl) | refine hR2412 _ _ _ ?_ | omega | (unfold maxLen; omega) | (simp [h1_, h1__, h1q, h2, h2_, h3, h3_, h4, h4_, h6, h6_, h7, h8, h7_, h8_]; done) | (simp [h1_, h1__, h1q, h2, h2_, h3, h3_, h4, h4_, h6, h6_, h7, h8, h7_, h8_]; omega))
            refine AW.wk [(8, AV.slc 0 0 1 v7.length false), (9, AV.lst false false (List.map (AV.int .u8) v5)), (11, AV.str v9), (12, AV.int .i64 0), (33, AV.int .i64 v2), (34, AV.int .i64 v6), (47, AV.int .i64 0)] [(0, .grow (List.map (AV.int .i64) v7))] 1 (by simp [h1_, h1__, h1q, h2, h2_, h3, h3_, h4, h4_, h6, h6_, h7, h8, h7_, h8_]) (by simp [h1_, h1__, h1q, h2, h2_, h3, h3_, h4, h4_, h6, h6_, h7, h8, h7_, h8_]) (by simp) ?_
            refine AW.block ?_
            refine AW.loopF (α := (Int × Int)) (fun n (v10, v11) => beacon_Numbers.L2 k v6 v7 v9 (fun v6_ v7_ => beacon_Numbers.L1 k v2 v5 n1 v6_ v7_) n v10 v11 = some (v3, v4)) (fun (v10, v11) => [(8, AV.slc 0 0 1 v7.length false), (9, AV.lst false false (List.map (AV.int .u8) v5)), (11, AV.str v9), (12, AV.int .i64 v10), (33, AV.int .i64 v2), (34, AV.int .i64 v6), (47, AV.int .i64 v11)]) (fun (v10, v11) => [(0, .grow (List.map (AV.int .i64) v7))]) 1 k ((0, 0)) hF (by simp [h1_, h1__, h1q, h2, h2_, h3, h3_, h4, h4_, h6, h6_, h7, h8, h7_, h8_]) (by simp [h1_, h1__, h1q, h2, h2_, h3, h3_, h4, h4_, h6, h6_, h7, h8, h7_, h8_]) (by simp) ?_
            rintro (_|n2) ⟨v10, v11⟩ hF K2437 hK2437
            · try dsimp only at hF
              rw [beacon_Numbers.L2] at hF; cases hF
            try dsimp only at hF
            rw [beacon_Numbers.L2] at hF
            refine AW.seqR mixed [] [none] (by kernel_rfl) fun G2438 R2438 hG2438 hR2438 => ?_
            try simp [h1_, h1__, h1q, h2, h2_, h3, h3_, h4, h4_, h6, h6_, h7, h8, h7_, h8_]
            repeat' apply And.intro
            any_goals (first | exact hG2438 _ (by kernel_rfl) | refine hR2438 _ _ _ ?_ | omega | (unfold maxLen; omega) | (simp [h1_, h1__, h1q, h2, h2_, h3, h3_, h4, h4_, h6, h6_, h7, h8, h7_, h8_]; done) | (simp [h1_, h1__, h1q, h2, h2_, h3, h3_, h4, h4_, h6, h6_, h7, h8, h7_, h8_]; omega))
            refine AW.wk [(8, AV.slc 0 0 1 v7.length false), (9, AV.lst false false (List.map (AV.int .u8) v5)), (11, AV.str v9), (12, AV.int .i64 v10), (33, AV.int .i64 v2), (34, AV.int .i64 v6), (47, AV.int .i64 v11), (48, AV.bool (decide (v11 < 4)))] [(0, .grow (List.map (AV.int .i64) v7))] 1 (by simp [h1_, h1__, h1q, h2, h2_, h3, h3_, h4, h4_, h6, h6_, h7, h8, h7_, h8_]) (by simp [h1_, h1__, h1q, h2, h2_, h3, h3_, h4, h4_, h6, h6_, h7, h8, h7_, h8_]) (by simp) ?_
            refine AW.seq fun K2439 hK2439 => ?_
            by_cases h11 : v11 < 4
            · replace hF := ite_t h11 hF
              have h11_ := h11
              try simp at h11_
              refine AW.condT (by decide) (by first | (simp [h1_, h1__, h1q, h2, h2_, h3, h3_, h4, h4_, h6, h6_, h7, h8, h7_, h8_, h11, h11_]; done) | (simp [h1_, h1__, h1q, h2, h2_, h3, h3_, h4, h4_, h6, h6_, h7, h8, h7_, h8_, h11, h11_]; omega)) ?_
              refine AW.skip ?_
              refine hK2439 _ _ _ ?_
              refine AW.seq fun K2442 hK2442 => ?_
              refine AW.block ?_
              refine AW.seqR mixed [] [none, none] (by kernel_rfl) fun G2443 R2443 hG2443 hR2443 => ?_
              try simp [h1_, h1__, h1q, h2, h2_, h3, h3_, h4, h4_, h6, h6_, h7, h8, h7_, h8_, h11, h11_]
              repeat' apply And.intro
              any_goals (first | exact hG2443 _ (by kernel_rfl) | refine hR2443 _ _ _ ?_ | omega | (unfold maxLen; omega) | (simp [h1_, h1__, h1q, h2, h2_, h3, h3_, h4, h4_, h6, h6_, h7, h8, h7_, h8_, h11, h11_]; done) | (simp [h1_, h1__, h1q, h2, h2_, h3, h3_, h4, h4_, h6, h6_, h7, h8, h7_, h8_, h11, h11_]; omega))
              refine AW.wk [(8, AV.slc 0 0 1 v7.length false), (9, AV.lst false false (List.map (AV.int .u8) v5)), (11, AV.str v9), (12, AV.int .i64 v10), (13, AV.int .i64 v11), (33, AV.int .i64 v2), (34, AV.int .i64 v6), (47, AV.int .i64 v11)] [(0, .grow (List.map (AV.int .i64) v7))] 1 (by simp [h1_, h1__, h1q, h2, h2_, h3, h3_, h4, h4_, h6, h6_, h7, h8, h7_, h8_, h11, h11_]) (by simp [h1_, h1__, h1q, h2, h2_, h3, h3_, h4, h4_, h6, h6_, h7, h8, h7_, h8_, h11, h11_]) (by simp) ?_
              refine AW.region mixed [] [none, none, none, none, none, none, none, none] (by kernel_rfl) fun G2444 R2444 hG2444 hR2444 => ?_
              obtain ⟨v12, h12, h13, h14, hF⟩ := idx_elim hF
              have h14_ := get_of h14
              have h13_ := h13
              simp at h13_
              have h12_ := h12
              try simp at h12_
              have h14__ := h14_
              try simp [bI] at h14__
              have h14b := bI_at h14
              try simp at h14b
              try simp [h1_, h1__, h1q, h2, h2_, h3, h3_, h4, h4_, h6, h6_, h7, h8, h7_, h8_, h11, h11_, h12, h12_, h13_, h14, h14_, h14__, h14b]
              repeat' apply And.intro
              any_goals (first | exact hG2444 _ (by kernel_rfl) | refine hR2444 _ _ _ ?_ | omega | (unfold maxLen; omega) | (simp [h1_, h1__, h1q, h2, h2_, h3, h3_, h4, h4_, h6, h6_, h7, h8, h7_, h8_, h11, h11_, h12, h12_, h13_, h14, h14_, h14__, h14b]; done) | (simp [h1_, h1__, h1q, h2, h2_, h3, h3_, h4, h4_, h6, h6_, h7, h8, h7_, h8_, h11, h11_, h12, h12_, h13_, h14, h14_, h14__, h14b]; omega))
              refine hK2442 _ _ _ ?_
              refine AW.wk [(8, AV.slc 0 0 1 v7.length false), (9, AV.lst false false (List.map (AV.int .u8) v5)), (11, AV.str v9), (12, AV.int .i64 (bitsV .or .i64 (IntKind.wrap .i64 (v10 * 2 ^ (8))) (IntKind.wrap .i64 v12))), (33, AV.int .i64 v2), (34, AV.int .i64 v6), (47, AV.int .i64 v11)] [(0, .grow (List.map (AV.int .i64) v7))] 1 (by simp [h1_, h1__, h1q, h2, h2_, h3, h3_, h4, h4_, h6, h6_, h7, h8, h7_, h8_, h11, h11_, h12, h12_, h13_, h14, h14_, h14__, h14b]) (by simp [h1_, h1__, h1q, h2, h2_, h3, h3_, h4, h4_, h6, h6_, h7, h8, h7_, h8_, h11, h11_, h12, h12_, h13_, h14, h14_, h14__, h14b]) (by simp) ?_
              refine AW.region mixed [] [none, none] (by kernel_rfl) fun G2445 R2445 hG2445 hR2445 => ?_
              try simp [h1_, h1__, h1q, h2, h2_, h3, h3_, h4, h4_, h6, h6_, h7, h8, h7_, h8_, h11, h11_, h12, h12_, h13_, h14, h14_, h14__, h14b]
              repeat' apply And.intro
              any_goals (first | exact hG2445 _ (by kernel_rfl) | refine hR2445 _ _ _ ?_ | omega | (unfold maxLen; omega) | (simp [h1_, h1__, h1q, h2, h2_, h3, h3_, h4, h4_, h6, h6_, h7, h8, h7_, h8_, h11, h11_, h12, h12_, h13_, h14, h14_, h14__, h14b]; done) | (simp [h1_, h1__, h1q, h2, h2_, h3, h3_, h4, h4_, h6, h6_, h7, h8, h7_, h8_, h11, h11_, h12, h12_, h13_, h14, h14_, h14__, h14b]; omega))
              refine hK2437 _ _ _ ?_
              refine Can.weak [(8, AV.slc 0 0 1 v7.length false), (9, AV.lst false false (List.map (AV.int .u8) v5)), (11, AV.str v9), (12, AV.int .i64 (bitsV .or .i64 (IntKind.wrap .i64 (v10 * 2 ^ (8))) (IntKind.wrap .i64 v12))), (33, AV.int .i64 v2), (34, AV.int .i64 v6), (47, AV.int .i64 (IntKind.wrap .i64 (v11 + 1)))] [(0, .grow (List.map (AV.int .i64) v7))] 1 (by simp [h1_, h1__, h1q, h2, h2_, h3, h3_, h4, h4_, h6, h6_, h7, h8, h7_, h8_, h11, h11_, h12, h12_, h13_, h14, h14_, h14__, h14b]) (by simp [h1_, h1__, h1q, h2, h2_, h3, h3_, h4, h4_, h6, h6_, h7, h8, h7_, h8_, h11, h11_, h12, h12_, h13_, h14, h14_, h14__, h14b]) (by simp) ?_
              exact Can.next (k' := n2) ((bitsV .or .i64 (IntKind.wrap .i64 (v10 * 2 ^ (8))) (IntKind.wrap .i64 v12), IntKind.wrap .i64 (v11 + 1))) (by omega) hF (by simp [h1_, h1__, h1q, h2, h2_, h3, h3_, h4, h4_, h6, h6_, h7, h8, h7_, h8_, h11, h11_, h12, h12_, h13_, h14, h14_, h14__, h14b]) (by simp [h1_, h1__, h1q, h2, h2_, h3, h3_, h4, h4_, h6, h6_, h7, h8, h7_, h8_, h11, h11_, h12, h12_, h13_, h14, h14_, h14__, h14b]) (by simp)
            · replace hF := ite_f h11 hF
              have h11_ := h11
              try simp at h11_
              refine AW.condF (by decide) (by first | (simp [h1_, h1__, h1q, h2, h2_, h3, h3_, h4, h4_, h6, h6_, h7, h8, h7_, h8_, h11, h11_]; done) | (simp [h1_, h1__, h1q, h2, h2_, h3, h3_, h4, h4_, h6, h6_, h7, h8, h7_, h8_, h11, h11_]; omega)) ?_
              refine AW.exit ?_
              try simp
              refine hK2411 _ _ _ ?_
              refine AW.region mixed [] [none, none, none, none, none] (by kernel_rfl) fun G2446 R2446 hG2446 hR2446 => ?_
              obtain ⟨h15, hF⟩ := chk_elim hF
              have h15_ := h15
              try simp at h15_
              try simp [h1_, h1__, h1q, h2, h2_, h3, h3_, h4, h4_, h6, h6_, h7, h8, h7_, h8_, h11, h11_, h15]
              repeat' apply And.intro
              any_goals (first | exact hG2446 _ (by kernel_rfl) | refine hR2446 _ _ _ ?_ | omega | (unfold maxLen; omega) | (simp [h1_, h1__, h1q, h2, h2_, h3, h3_, h4, h4_, h6, h6_, h7, h8, h7_, h8_, h11, h11_, h15]; done) | (simp [h1_, h1__, h1q, h2, h2_, h3, h3_, h4, h4_, h6, h6_, h7, h8, h7_, h8_, h11, h11_, h15]; omega))
              refine hK2373 _ _ _ ?_
              refine AW.wk [(8, AV.slc 1 0 1 ((v7 ++ ([v10] : List Int)).length) false), (9, AV.lst false false (List.map (AV.int .u8) v5)), (33, AV.int .i64 v2), (34, AV.int .i64 v6)] [(1, .grow (List.map (AV.int .i64) (v7 ++ ([v10] : List Int))))] 2 (by simp [h1_, h1__, h1q, h2, h2_, h3, h3_, h4, h4_, h6, h6_, h7, h8, h7_, h8_, h11, h11_, h15] <;> omega) (by simp [h1_, h1__, h1q, h2, h2_, h3, h3_, h4, h4_, h6, h6_, h7, h8, h7_, h8_, h11, h11_, h15]) (by simp) ?_
              refine AW.region mixed [] [none, none] (by kernel_rfl) fun G2447 R2447 hG2447 hR2447 => ?_
              try simp [h1_, h1__, h1q, h2, h2_, h3, h3_, h4, h4_, h6, h6_, h7, h8, h7_, h8_, h11, h11_, h15]
              repeat' apply And.intro
              any_goals (first | exact hG2447 _ (by kernel_rfl) | refine hR2447 _ _ _ ?_ | omega | (unfold maxLen; omega) | (simp [h1_, h1__, h1q, h2, h2_, h3, h3_, h4, h4_, h6, h6_, h7, h8, h7_, h8_, h11, h11_, h15]; done) | (simp [h1_, h1__, h1q, h2, h2_, h3, h3_, h4, h4_, h6, h6_, h7, h8, h7_, h8_, h11, h11_, h15]; omega))
              refine hK2297 _ _ _ ?_
              refine Can.weak [(8, AV.slc 1 0 1 ((v7 ++ ([v10] : List Int)).length) false), (9, AV.lst false false (List.map (AV.int .u8) v5)), (33, AV.int .i64 v2), (34, AV.int .i64 (IntKind.wrap .i64 (v6 + 1)))] [(1, .grow (List.map (AV.int .i64) (v7 ++ ([v10] : List Int))))] 2 (by simp [h1_, h1__, h1q, h2, h2_, h3, h3_, h4, h4_, h6, h6_, h7, h8, h7_, h8_, h11, h11_, h15] <;> omega) (by simp [h1_, h1__, h1q, h2, h2_, h3, h3_, h4, h4_, h6, h6_, h7, h8, h7_, h8_, h11, h11_, h15]) (by simp) ?_
              refine Can.ren (m := 0) h0 [(0, 1)] [(8, AV.slc 0 0 1 ((v7 ++ ([v10] : List Int)).length) false), (9, AV.lst false false (List.map (AV.int .u8) v5)), (33, AV.int .i64 v2), (34, AV.int .i64 (IntKind.wrap .i64 (v6 + 1)))] [(0, .grow (List.map (AV.int .i64) (v7 ++ ([v10] : List Int))))] 1 (by decide) (by decide) (by decide) rfl (by simp [h1_, h1__, h1q, h2, h2_, h3, h3_, h4, h4_, h6, h6_, h7, h8, h7_, h8_, h11, h11_, h15]) (by simp [h1_, h1__, h1q, h2, h2_, h3, h3_, h4, h4_, h6, h6_, h7, h8, h7_, h8_, h11, h11_, h15]) ?_
              exact Can.next (k' := n1) ((IntKind.wrap .i64 (v6 + 1), v7 ++ ([v10] : List Int))) (by omega) hF (by simp [h1_, h1__, h1q, h2, h2_, h3, h3_, h4, h4_, h6, h6_, h7, h8, h7_, h8_, h11, h11_, h15]) (by simp [h1_, h1__, h1q, h2, h2_, h3, h3_, h4, h4_, h6, h6_, h7, h8, h7_, h8_, h11, h11_, h15]) (by simp)
          · replace hF := ite_f h6 hF
            have h6_ := h6
            try simp at h6_
            refine AW.condF (by decide) (by first | (simp [h1_, h1__, h1q, h2, h2_, h3, h3_, h4, h4_, h6, h6_]; done) | (simp [h1_, h1__, h1q, h2, h2_, h3, h3_, h4, h4_, h6, h6_]; omega)) ?_
            refine AW.exit ?_
            try simp
            refine hK1845 _ _ _ ?_
            refine AW.seqR mixed [] [none, none, none] (by kernel_rfl) fun G2448 R2448 hG2448 hR2448 => ?_
            try simp [h1_, h1__, h1q, h2, h2_, h3, h3_, h4, h4_, h6, h6_]
            repeat' apply And.intro
            any_goals (first | exact hG2448 _ (by kernel_rfl) | refine hR2448 _ _ _ ?_ | omega | (unfold maxLen; omega) | (simp [h1_, h1__, h1q, h2, h2_, h3, h3_, h4, h4_, h6, h6_]; done) | (simp [h1_, h1__, h1q, h2, h2_, h3, h3_, h4, h4_, h6, h6_]; omega))
            refine AW.wk [(6, AV.slc 0 0 1 v7.length false), (7, AV.int .i64 0)] [(0, .grow (List.map (AV.int .i64) v7))] 1 (by simp [h1_, h1__, h1q, h2, h2_, h3, h3_, h4, h4_, h6, h6_]) (by simp [h1_, h1__, h1q, h2, h2_, h3, h3_, h4, h4_, h6, h6_]) (by simp) ?_
            simp only [Option.some.injEq, Prod.mk.injEq] at hF
            obtain ⟨e0, e1⟩ := hF
            subst e0 e1
            refine AW.ret (hQ _ _ _ ?_ (matchO_0 ?_)).1
            · simp [Try.f41, h1_, h1__, h1q, h2, h2_, h3, h3_, h4, h4_, h6, h6_]
            · simp [h1_, h1__, h1q, h2, h2_, h3, h3_, h4, h4_, h6, h6_]
end Go.TF
