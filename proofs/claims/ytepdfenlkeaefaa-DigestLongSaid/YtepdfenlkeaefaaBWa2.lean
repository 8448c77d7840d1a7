/- Walks: the Go text computes the Lean functions (printed by a program of our own). -/
import Derived.Test.YtepdfenlkeaefaaBPu
import Derived.Test.YtepdfenlkeaefaaBAbsT
import Derived.Test.YtepdfenlkeaefaaBWa0
import Derived.Test.YtepdfenlkeaefaaBWa1
set_option linter.unusedVariables false
set_option linter.unusedSimpArgs false
set_option maxRecDepth 100000
namespace Go.TF
open Go Go.Abs Go.Proofs Go.Proofs.YtepdfenlkeaefaaBT
set_option maxHeartbeats 4000000 in
theorem w_digest_Sum (k : Nat) (v0 : (List Int)) (v1 : ByteArray) (hF : digest_Sum k v0 = some v1) :
    FCall Try.prog 14 [AV.lst false false (List.map (AV.int .u8) v0)] [] (AV.str v1) [] := by
  unfold digest_Sum at hF
  refine FCall.enter Try.func14 rfl (by simp) (by decide) (by simp) (by simp) (by simp) (by simp) (by simp) ?_
  intro c0 w0 Q h0 hQ
  refine AW.wk [(0, AV.lst false false (List.map (AV.int .u8) v0))] [] 0 (by simp) (by simp) (by simp) ?_
  refine AW.seqR mixed [] [none] (by kernel_rfl) fun G231 R231 hG231 hR231 => ?_
  try simp
  repeat' apply And.intro
  any_goals (first | exact hG231 _ (by kernel_rfl) | refine hR231 _ _ _ ?_ | omega | (unfold maxLen; omega) | (simp; done) | (simp; omega))
  refine AW.wk [(0, AV.lst false false (List.map (AV.int .u8) v0))] [] 0 (by simp) (by simp) (by simp) ?_
  refine AW.seqR mixed [12] [none, none, none, none, none] (by kernel_rfl) fun G232 R232 hG232 hR232 => ?_
  obtain ⟨h1, hF⟩ := chk_elim hF
  have h1_ := h1
  try simp at h1_
  obtain ⟨h2, hF⟩ := chk_elim hF
  have h2_ := h2
  try simp at h2_
  try simp [h1, h2]
  repeat' apply And.intro
  any_goals (first | exact hG232 _ (by kernel_rfl) | refine hR232 _ _ _ ?_ | omega | (unfold maxLen; omega) | (simp [h1, h2]; done) | (simp [h1, h2]; omega))
  refine AW.wk [(0, AV.lst false false (List.map (AV.int .u8) v0)), (3, AV.slc 1 0 1 ((v0 ++ ([128] : List Int)).length) false)] [(1, .grow (List.map (AV.int .u8) (v0 ++ ([128] : List Int))))] 2 (by simp [h1, h2]) (by simp [h1, h2]) (by simp) ?_
  refine AW.seq fun K250 hK250 => ?_
  refine AW.block ?_
  refine AW.rnm (m := 0) h0 [(0, 1)] [(0, AV.lst false false (List.map (AV.int .u8) v0)), (3, AV.slc 0 0 1 ((v0 ++ ([128] : List Int)).length) false)] [(0, .grow (List.map (AV.int .u8) (v0 ++ ([128] : List Int))))] 1 (by decide) (by decide) (by decide) rfl (by simp [h1, h2]) (by simp [h1, h2]) ?_
  refine AW.loopF (α := (List Int)) (fun n v2 => digest_Sum.L1 k v0 n v2 = some v1) (fun v2 => [(0, AV.lst false false (List.map (AV.int .u8) v0)), (3, AV.slc 0 0 1 v2.length false)]) (fun v2 => [(0, .grow (List.map (AV.int .u8) v2))]) 1 k (v0 ++ ([128] : List Int)) hF (by simp [h1, h2]) (by simp [h1, h2]) (by simp) ?_
  rintro (_|n1) v2 hF K263 hK263
  · try dsimp only at hF
    rw [digest_Sum.L1] at hF; cases hF
  try dsimp only at hF
  rw [digest_Sum.L1] at hF
  refine AW.seq fun K265 hK265 => ?_
  refine AW.seqR mixed [] [none, none, none, none] (by kernel_rfl) fun G266 R266 hG266 hR266 => ?_
  try simp [h1, h2]
  repeat' apply And.intro
  any_goals (first | exact hG266 _ (by kernel_rfl) | refine hR266 _ _ _ ?_ | omega | (unfold maxLen; omega) | (simp [h1, h2]; done) | (simp [h1, h2]; omega))
  refine AW.wk [(0, AV.lst false false (List.map (AV.int .u8) v0)), (3, AV.slc 0 0 1 v2.length false), (18, AV.bool ((Int.tmod (v2.length : Int) 64) != 56))] [(0, .grow (List.map (AV.int .u8) v2))] 1 (by simp [h1, h2]) (by simp [h1, h2]) (by simp) ?_
  by_cases h3 : (Int.tmod (v2.length : Int) 64) ≠ 56
  · replace hF := ite_t h3 hF
    have h3_ := eqb_f h3
    have h3__ := neb_t h3
    refine AW.condT (by decide) (by first | (simp [h1, h2, h3, h3_, h3__]; done) | (simp [h1, h2, h3, h3_, h3__]; omega)) ?_
    refine AW.skip ?_
    refine hK265 _ _ _ ?_
    refine AW.block ?_
    refine AW.region mixed [] [none, none, none, none] (by kernel_rfl) fun G267 R267 hG267 hR267 => ?_
    obtain ⟨h4, hF⟩ := chk_elim hF
    have h4_ := h4
    try simp at h4_
    try simp [h1, h2, h3, h3_, h3__, h4]
    repeat' apply And.intro
    any_goals (first | exact hG267 _ (by kernel_rfl) | refine hR267 _ _ _ ?_ | omega | (unfold maxLen; omega) | (simp [h1, h2, h3, h3_, h3__, h4]; done) | (simp [h1, h2, h3, h3_, h3__, h4]; omega))
    refine hK263 _ _ _ ?_
    refine Can.weak [(0, AV.lst false false (List.map (AV.int .u8) v0)), (3, AV.slc 1 0 1 ((v2 ++ ([0] : List Int)).length) false)] [(1, .grow (List.map (AV.int .u8) (v2 ++ ([0] : List Int))))] 2 (by simp [h1, h2, h3, h3_, h3__, h4]) (by simp [h1, h2, h3, h3_, h3__, h4]) (by simp) ?_
    refine Can.ren (m := 0) h0 [(0, 1)] [(0, AV.lst false false (List.map (AV.int .u8) v0)), (3, AV.slc 0 0 1 ((v2 ++ ([0] : List Int)).length) false)] [(0, .grow (List.map (AV.int .u8) (v2 ++ ([0] : List Int))))] 1 (by decide) (by decide) (by decide) rfl (by simp [h1, h2, h3, h3_, h3__, h4]) (by simp [h1, h2, h3, h3_, h3__, h4]) ?_
    exact Can.next (k' := n1) (v2 ++ ([0] : List Int)) (by omega) hF (by simp [h1, h2, h3, h3_, h3__, h4]) (by simp [h1, h2, h3, h3_, h3__, h4]) (by simp)
  · replace hF := ite_f h3 hF
    have h3q : (Int.tmod (v2.length : Int) 64) = 56 := Classical.not_not.1 h3
    have h3_ := eqb_t h3q
    have h3__ := neb_f h3q
    refine AW.condF (by decide) (by first | (simp [h1, h2, h3_, h3__, h3q]; done) | (simp [h1, h2, h3_, h3__, h3q]; omega)) ?_
    refine AW.exit ?_
    try simp
    refine hK250 _ _ _ ?_
    refine AW.seqR mixed [] [none, none, none, none, none] (by kernel_rfl) fun G268 R268 hG268 hR268 => ?_
    try simp [h1, h2, h3_, h3__, h3q]
    repeat' apply And.intro
    any_goals (first | exact hG268 _ (by kernel_rfl) | refine hR268 _ _ _ ?_ | omega | (unfold maxLen; omega) | (simp [h1, h2, h3_, h3__, h3q]; done) | (simp [h1, h2, h3_, h3__, h3q]; omega))
    refine AW.wk [(3, AV.slc 0 0 1 v2.length false), (4, AV.int .u64 (IntKind.wrap .u64 (IntKind.wrap .u64 (v0.length : Int) * 8)))] [(0, .grow (List.map (AV.int .u8) v2))] 1 (by simp [h1, h2, h3_, h3__, h3q]) (by simp [h1, h2, h3_, h3__, h3q]) (by simp) ?_
    refine AW.seq fun K299 hK299 => ?_
    refine AW.seqR mixed [] [none] (by kernel_rfl) fun G300 R300 hG300 hR300 => ?_
    try simp [h1, h2, h3_, h3__, h3q]
    repeat' apply And.intro
    any_goals (first | exact hG300 _ (by kernel_rfl) | refine hR300 _ _ _ ?_ | omega | (unfold maxLen; omega) | (simp [h1, h2, h3_, h3__, h3q]; done) | (simp [h1, h2, h3_, h3__, h3q]; omega))
    refine AW.wk [(3, AV.slc 0 0 1 v2.length false), (4, AV.int .u64 (IntKind.wrap .u64 (IntKind.wrap .u64 (v0.length : Int) * 8))), (5, AV.int .i64 56)] [(0, .grow (List.map (AV.int .u8) v2))] 1 (by simp [h1, h2, h3_, h3__, h3q]) (by simp [h1, h2, h3_, h3__, h3q]) (by simp) ?_
    refine AW.block ?_
    refine AW.loopF (α := (Int × (List Int))) (fun n (v3, v4) => digest_Sum.L2 k v0 n v3 v4 = some v1) (fun (v3, v4) => [(3, AV.slc 0 0 1 v4.length false), (4, AV.int .u64 (IntKind.wrap .u64 (IntKind.wrap .u64 (v0.length : Int) * 8))), (5, AV.int .i64 v3)]) (fun (v3, v4) => [(0, .grow (List.map (AV.int .u8) v4))]) 1 k ((56, v2)) hF (by simp [h1, h2, h3_, h3__, h3q]) (by simp [h1, h2, h3_, h3__, h3q]) (by simp) ?_
    rintro (_|n2) ⟨v3, v4⟩ hF K322 hK322
    · try dsimp only at hF
      rw [digest_Sum.L2] at hF; cases hF
    try dsimp only at hF
    rw [digest_Sum.L2] at hF
    refine AW.seq fun K324 hK324 => ?_
    refine AW.seqR mixed [] [none, none] (by kernel_rfl) fun G325 R325 hG325 hR325 => ?_
    try simp [h1, h2, h3_, h3__, h3q]
    repeat' apply And.intro
    any_goals (first | exact hG325 _ (by kernel_rfl) | refine hR325 _ _ _ ?_ | omega | (unfold maxLen; omega) | (simp [h1, h2, h3_, h3__, h3q]; done) | (simp [h1, h2, h3_, h3__, h3q]; omega))
    refine AW.wk [(3, AV.slc 0 0 1 v4.length false), (4, AV.int .u64 (IntKind.wrap .u64 (IntKind.wrap .u64 (v0.length : Int) * 8))), (5, AV.int .i64 v3), (27, AV.bool (decide (0 ≤ v3)))] [(0, .grow (List.map (AV.int .u8) v4))] 1 (by simp [h1, h2, h3_, h3__, h3q]) (by simp [h1, h2, h3_, h3__, h3q]) (by simp) ?_
    by_cases h5 : 0 ≤ v3
    · replace hF := ite_t h5 hF
      have h5_ := h5
      try simp at h5_
      refine AW.condT (by decide) (by first | (simp [h1, h2, h3_, h3__, h3q, h5, h5_]; done) | (simp [h1, h2, h3_, h3__, h3q, h5, h5_]; omega)) ?_
      refine AW.skip ?_
      refine hK324 _ _ _ ?_
      refine AW.seq fun K327 hK327 => ?_
      refine AW.block ?_
      refine AW.region mixed [] [none, none, none, none, none, none, none, none, none] (by kernel_rfl) fun G328 R328 hG328 hR328 => ?_
      obtain ⟨h6, hF⟩ := chk_elim hF
      obtain ⟨h7, hF⟩ := chk_elim hF
      have h7_ := h7
      try simp at h7_
      try simp [h1, h2, h3_, h3__, h3q, h5, h5_, h6, h7]
      repeat' apply And.intro
      any_goals (first | exact hG328 _ (by kernel_rfl) | refine hR328 _ _ _ ?_ | omega | (unfold maxLen; omega) | (simp [h1, h2, h3_, h3__, h3q, h5, h5_, h6, h7]; done) | (simp [h1, h2, h3_, h3__, h3q, h5, h5_, h6, h7]; omega))
      refine hK327 _ _ _ ?_
      refine AW.wk [(3, AV.slc 1 0 1 ((v4 ++ ([IntKind.wrap .u8 (Int.fdiv (IntKind.wrap .u64 (IntKind.wrap .u64 (v0.length : Int) * 8)) (2 ^ (min ((IntKind.wrap .u64 v3).toNat) 64)))] : List Int)).length) false), (4, AV.int .u64 (IntKind.wrap .u64 (IntKind.wrap .u64 (v0.length : Int) * 8))), (5, AV.int .i64 v3)] [(1, .grow (List.map (AV.int .u8) (v4 ++ ([IntKind.wrap .u8 (Int.fdiv (IntKind.wrap .u64 (IntKind.wrap .u64 (v0.length : Int) * 8)) (2 ^ (min ((IntKind.wrap .u64 v3).toNat) 64)))] : List Int))))] 2 (by simp [h1, h2, h3_, h3__, h3q, h5, h5_, h6, h7]) (by simp [h1, h2, h3_, h3__, h3q, h5, h5_, h6, h7]) (by simp) ?_
      refine AW.region mixed [] [none, none, none] (by kernel_rfl) fun G329 R329 hG329 hR329 => ?_
      try simp [h1, h2, h3_, h3__, h3q, h5, h5_, h6, h7]
      repeat' apply And.intro
      any_goals (first | exact hG329 _ (by kernel_rfl) | refine hR329 _ _ _ ?_ | omega | (unfold maxLen; omega) | (simp [h1, h2, h3_, h3__, h3q, h5, h5_, h6, h7]; done) | (simp [h1, h2, h3_, h3__, h3q, h5, h5_, h6, h7]; omega))
      refine hK322 _ _ _ ?_
      refine Can.weak [(3, AV.slc 1 0 1 ((v4 ++ ([IntKind.wrap .u8 (Int.fdiv (IntKind.wrap .u64 (IntKind.wrap .u64 (v0.length : Int) * 8)) (2 ^ (min ((IntKind.wrap .u64 v3).toNat) 64)))] : List Int)).length) false), (4, AV.int .u64 (IntKind.wrap .u64 (IntKind.wrap .u64 (v0.length : Int) * 8))), (5, AV.int .i64 (IntKind.wrap .i64 (v3 - 8)))] [(1, .grow (List.map (AV.int .u8) (v4 ++ ([IntKind.wrap .u8 (Int.fdiv (IntKind.wrap .u64 (IntKind.wrap .u64 (v0.length : Int) * 8)) (2 ^ (min ((IntKind.wrap .u64 v3).toNat) 64)))] : List Int))))] 2 (by simp [h1, h2, h3_, h3__, h3q, h5, h5_, h6, h7]) (by simp [h1, h2, h3_, h3__, h3q, h5, h5_, h6, h7]) (by simp) ?_
      refine Can.ren (m := 0) h0 [(0, 1)] [(3, AV.slc 0 0 1 ((v4 ++ ([IntKind.wrap .u8 (Int.fdiv (IntKind.wrap .u64 (IntKind.wrap .u64 (v0.length : Int) * 8)) (2 ^ (min ((IntKind.wrap .u64 v3).toNat) 64)))] : List Int)).length) false), (4, AV.int .u64 (IntKind.wrap .u64 (IntKind.wrap .u64 (v0.length : Int) * 8))), (5, AV.int .i64 (IntKind.wrap .i64 (v3 - 8)))] [(0, .grow (List.map (AV.int .u8) (v4 ++ ([IntKind.wrap .u8 (Int.fdiv (IntKind.wrap .u64 (IntKind.wrap .u64 (v0.length : Int) * 8)) (2 ^ (min ((IntKind.wrap .u64 v3).toNat) 64)))] : List Int))))] 1 (by decide) (by decide) (by decide) rfl (by simp [h1, h2, h3_, h3__, h3q, h5, h5_, h6, h7]) (by simp [h1, h2, h3_, h3__, h3q, h5, h5_, h6, h7]) ?_
      exact Can.next (k' := n2) ((IntKind.wrap .i64 (v3 - 8), v4 ++ ([IntKind.wrap .u8 (Int.fdiv (IntKind.wrap .u64 (IntKind.wrap .u64 (v0.length : Int) * 8)) (2 ^ (min ((IntKind.wrap .u64 v3).toNat) 64)))] : List Int))) (by omega) hF (by simp [h1, h2, h3_, h3__, h3q, h5, h5_, h6, h7]) (by simp [h1, h2, h3_, h3__, h3q, h5, h5_, h6, h7]) (by simp)
    · replace hF := ite_f h5 hF
      have h5_ := h5
      try simp at h5_
      refine AW.condF (by decide) (by first | (simp [h1, h2, h3_, h3__, h3q, h5, h5_]; done) | (simp [h1, h2, h3_, h3__, h3q, h5, h5_]; omega)) ?_
      refine AW.exit ?_
      try simp
      refine hK299 _ _ _ ?_
      refine AW.wk [(3, AV.slc 0 0 1 v4.length false)] [(0, .grow (List.map (AV.int .u8) v4))] 1 (by simp [h1, h2, h3_, h3__, h3q, h5, h5_]) (by simp [h1, h2, h3_, h3__, h3q, h5, h5_]) (by simp) ?_
      refine AW.frz 0 (o := .grow (List.map (AV.int .u8) v4)) (by simp [h1, h2, h3_, h3__, h3q, h5, h5_]) rfl [(3, AV.lst false false (List.map (AV.int .u8) v4))] [] ⟨(.l (by simp) (by simp) (by simp) (by simp)), trivial⟩ trivial ?_
      refine AW.wk [(3, AV.lst false false (List.map (AV.int .u8) v4))] [] 1 (by simp [h1, h2, h3_, h3__, h3q, h5, h5_]) (by simp [h1, h2, h3_, h3__, h3q, h5, h5_]) (by simp) ?_
      refine AW.seqR mixed [] [none, none, none, none, none, none] (by kernel_rfl) fun G330 R330 hG330 hR330 => ?_
      try simp [h1, h2, h3_, h3__, h3q, h5, h5_]
      repeat' apply And.intro
      try any_goals (first | omega | (unfold maxLen; omega) | (simp [h1, h2, h3_, h3__, h3q, h5, h5_]; done))
      obtain ⟨v5, h8, hF⟩ := bnd1_elim hF
      refine aCall_l (w_digest_rounds k _ h8) (by simp) [] [] [] rfl .nil (by simp [h1, h2, h3_, h3__, h3q, h5, h5_]) (by decide) (by simp) (by simp) (.inl rfl) (by simp) (by simp) ?_
      obtain ⟨h9, hF⟩ := chk_elim hF
      obtain ⟨h10, hF⟩ := chk_elim hF
      try simp [h1, h2, h3_, h3__, h3q, h5, h5_, h9, h10]
      repeat' apply And.intro
      any_goals (first | exact hG330 _ (by kernel_rfl) | refine hR330 _ _ _ ?_ | omega | (unfold maxLen; omega) | (simp [h1, h2, h3_, h3__, h3q, h5, h5_, h9, h10]; done) | (simp [h1, h2, h3_, h3__, h3q, h5, h5_, h9, h10]; omega))
      refine AW.wk [(3, AV.lst false false (List.map (AV.int .u8) v4)), (6, AV.ptr 1 0), (7, AV.ptr 2 0)] [(1, .cells (List.map (AV.int .u32) ([1779033703, 3144134277, 1013904242, 2773480762, 1359893119, 2600822924, 528734635, 1541459225] : List Int))), (2, .cells (List.map (AV.int .u32) v5))] 3 (by simp [h1, h2, h3_, h3__, h3q, h5, h5_, h9, h10]) (by simp [h1, h2, h3_, h3__, h3q, h5, h5_, h9, h10]) (by simp) ?_
      refine AW.seq fun K360 hK360 => ?_
      refine AW.block ?_
      refine AW.rnm (m := 0) h0 [(0, 1), (1, 2)] [(3, AV.lst false false (List.map (AV.int .u8) v4)), (6, AV.ptr 0 0), (7, AV.ptr 1 0)] [(0, .cells (List.map (AV.int .u32) ([1779033703, 3144134277, 1013904242, 2773480762, 1359893119, 2600822924, 528734635, 1541459225] : List Int))), (1, .cells (List.map (AV.int .u32) v5))] 2 (by decide) (by decide) (by decide) rfl (by simp [h1, h2, h3_, h3__, h3q, h5, h5_, h9, h10]) (by simp [h1, h2, h3_, h3__, h3q, h5, h5_, h9, h10]) ?_
      refine AW.loopF (α := ((List Int) × (List Int))) (fun n (v6, v7) => digest_Sum.L3 k v5 n v6 v7 = some v1) (fun (v6, v7) => [(3, AV.lst false false (List.map (AV.int .u8) v6)), (6, AV.ptr 0 0), (7, AV.ptr 1 0)]) (fun (v6, v7) => [(0, .cells (List.map (AV.int .u32) v7)), (1, .cells (List.map (AV.int .u32) v5))]) 2 k ((v4, ([1779033703, 3144134277, 1013904242, 2773480762, 1359893119, 2600822924, 528734635, 1541459225] : List Int))) hF (by simp [h1, h2, h3_, h3__, h3q, h5, h5_, h9, h10]) (by simp [h1, h2, h3_, h3__, h3q, h5, h5_, h9, h10]) (by simp) ?_
      rintro (_|n3) ⟨v6, v7⟩ hF K382 hK382
      · try dsimp only at hF
        rw [digest_Sum.L3] at hF; cases hF
      try dsimp only at hF
      rw [digest_Sum.L3] at hF
      refine AW.seq fun K384 hK384 => ?_
      refine AW.seqR mixed [] [none, none, none] (by kernel_rfl) fun G385 R385 hG385 hR385 => ?_
      try simp [h1, h2, h3_, h3__, h3q, h5, h5_, h9, h10]
      repeat' apply And.intro
      any_goals (first | exact hG385 _ (by kernel_rfl) | refine hR385 _ _ _ ?_ | omega | (unfold maxLen; omega) | (simp [h1, h2, h3_, h3__, h3q, h5, h5_, h9, h10]; done) | (simp [h1, h2, h3_, h3__, h3q, h5, h5_, h9, h10]; omega))
      refine AW.wk [(3, AV.lst false false (List.map (AV.int .u8) v6)), (6, AV.ptr 0 0), (7, AV.ptr 1 0), (42, AV.bool (decide (0 < (v6.length : Int))))] [(0, .cells (List.map (AV.int .u32) v7)), (1, .cells (List.map (AV.int .u32) v5))] 2 (by simp [h1, h2, h3_, h3__, h3q, h5, h5_, h9, h10]) (by simp [h1, h2, h3_, h3__, h3q, h5, h5_, h9, h10]) (by simp) ?_
      by_cases h11 : 0 < (v6.length : Int)
      · replace hF := ite_t h11 hF
        have h11_ := h11
        try simp at h11_
        refine AW.condT (by decide) (by first | (simp [h1, h2, h3_, h3__, h3q, h5, h5_, h9, h10, h11, h11_]; done) | (simp [h1, h2, h3_, h3__, h3q, h5, h5_, h9, h10, h11, h11_]; omega)) ?_
        refine AW.skip ?_
        refine hK384 _ _ _ ?_
        refine AW.seq fun K387 hK387 => ?_
        refine AW.block ?_
        refine AW.region mixed [] [none, none, none] (by kernel_rfl) fun G388 R388 hG388 hR388 => ?_
        obtain ⟨h12, hF⟩ := chk_elim hF
        have h12_ := h12
        try simp at h12_
        try simp [h1, h2, h3_, h3__, h3q, h5, h5_, h9, h10, h11, h11_, h12, h12_]
        repeat' apply And.intro
        try any_goals (first | omega | (unfold maxLen; omega) | (simp [h1, h2, h3_, h3__, h3q, h5, h5_, h9, h10, h11, h11_, h12, h12_]; done))
        obtain ⟨v8, h13, hF⟩ := bnd1_elim hF
        refine aCall_l (w_digest_state_block k _ _ _ _ h13) (by simp) [0, 1] [] [0] rfl (.cons (.same (by simp [h1, h2, h3_, h3__, h3q, h5, h5_, h9, h10, h11, h11_, h12, h12_])) (.cons (.same (by simp [h1, h2, h3_, h3__, h3q, h5, h5_, h9, h10, h11, h11_, h12, h12_])) (.cons (.same (by simp [h1, h2, h3_, h3__, h3q, h5, h5_, h9, h10, h11, h11_, h12, h12_])) .nil))) (by simp [h1, h2, h3_, h3__, h3q, h5, h5_, h9, h10, h11, h11_, h12, h12_]) (by decide) (by simp) (by simp) (.inl rfl) (by simp) (by simp) ?_
        try simp [h1, h2, h3_, h3__, h3q, h5, h5_, h9, h10, h11, h11_, h12, h12_]
        repeat' apply And.intro
        any_goals (first | exact hG388 _ (by kernel_rfl) | refine hR388 _ _ _ ?_ | omega | (unfold maxLen; omega) | (simp [h1, h2, h3_, h3__, h3q, h5, h5_, h9, h10, h11, h11_, h12, h12_]; done) | (simp [h1, h2, h3_, h3__, h3q, h5, h5_, h9, h10, h11, h11_, h12, h12_]; omega))
        refine hK387 _ _ _ ?_
        refine AW.wk [(3, AV.lst false false (List.map (AV.int .u8) v6)), (6, AV.ptr 0 0), (7, AV.ptr 1 0)] [(0, .cells (List.map (AV.int .u32) v8)), (1, .cells (List.map (AV.int .u32) v5))] 2 (by simp [h1, h2, h3_, h3__, h3q, h5, h5_, h9, h10, h11, h11_, h12, h12_]) (by simp [h1, h2, h3_, h3__, h3q, h5, h5_, h9, h10, h11, h11_, h12, h12_]) (by simp) ?_
        refine AW.region mixed [] [none, none, none] (by kernel_rfl) fun G389 R389 hG389 hR389 => ?_
        obtain ⟨h14, hF⟩ := chk_elim hF
        have h14_ := h14
        try simp at h14_
        try simp [h1, h2, h3_, h3__, h3q, h5, h5_, h9, h10, h11, h11_, h12, h12_, h14, h14_]
        repeat' apply And.intro
        any_goals (first | exact hG389 _ (by kernel_rfl) | refine hR389 _ _ _ ?_ | omega | (unfold maxLen; omega) | (simp [h1, h2, h3_, h3__, h3q, h5, h5_, h9, h10, h11, h11_, h12, h12_, h14, h14_]; done) | (simp [h1, h2, h3_, h3__, h3q, h5, h5_, h9, h10, h11, h11_, h12, h12_, h14, h14_]; omega))
        refine hK382 _ _ _ ?_
        refine Can.weak [(3, AV.lst false false (List.map (AV.int .u8) (v6.drop (64 : Int).toNat))), (6, AV.ptr 0 0), (7, AV.ptr 1 0)] [(0, .cells (List.map (AV.int .u32) v8)), (1, .cells (List.map (AV.int .u32) v5))] 2 (by simp [h1, h2, h3_, h3__, h3q, h5, h5_, h9, h10, h11, h11_, h12, h12_, h14, h14_]) (by simp [h1, h2, h3_, h3__, h3q, h5, h5_, h9, h10, h11, h11_, h12, h12_, h14, h14_]) (by simp) ?_
        exact Can.next (k' := n3) ((v6.drop (64 : Int).toNat, v8)) (by omega) hF (by simp [h1, h2, h3_, h3__, h3q, h5, h5_, h9, h10, h11, h11_, h12, h12_, h14, h14_]) (by simp [h1, h2, h3_, h3__, h3q, h5, h5_, h9, h10, h11, h11_, h12, h12_, h14, h14_]) (by simp)
      · replace hF := ite_f h11 hF
        have h11_ := h11
        try simp at h11_
        refine AW.condF (by decide) (by first | (simp [h1, h2, h3_, h3__, h3q, h5, h5_, h9, h10, h11, h11_]; done) | (simp [h1, h2, h3_, h3__, h3q, h5, h5_, h9, h10, h11, h11_]; omega)) ?_
        refine AW.exit ?_
        try simp
        refine hK360 _ _ _ ?_
        refine AW.seqR mixed [] [none] (by kernel_rfl) fun G390 R390 hG390 hR390 => ?_
        try simp [h1, h2, h3_, h3__, h3q, h5, h5_, h9, h10, h11, h11_]
        repeat' apply And.intro
        any_goals (first | exact hG390 _ (by kernel_rfl) | refine hR390 _ _ _ ?_ | omega | (unfold maxLen; omega) | (simp [h1, h2, h3_, h3__, h3q, h5, h5_, h9, h10, h11, h11_]; done) | (simp [h1, h2, h3_, h3__, h3q, h5, h5_, h9, h10, h11, h11_]; omega))
        refine AW.wk [(6, AV.ptr 0 0), (8, AV.lst true true (List.map (AV.int .u8) ([] : List Int)))] [(0, .cells (List.map (AV.int .u32) v7))] 2 (by simp [h1, h2, h3_, h3__, h3q, h5, h5_, h9, h10, h11, h11_]) (by simp [h1, h2, h3_, h3__, h3q, h5, h5_, h9, h10, h11, h11_]) (by simp) ?_
        refine AW.seq fun K425 hK425 => ?_
        refine AW.seqR mixed [] [none, none] (by kernel_rfl) fun G426 R426 hG426 hR426 => ?_
        -- array load
        obtain ⟨h15, hF⟩ := chk_elim hF
        have h15_ := ne_of_len h15 (by decide)
        try simp [h1, h2, h3_, h3__, h3q, h5, h5_, h9, h10, h11, h11_, h15, h15_]
        repeat' apply And.intro
        any_goals (first | exact hG426 _ (by kernel_rfl) | refine hR426 _ _ _ ?_ | omega | (unfold maxLen; omega) | (simp [h1, h2, h3_, h3__, h3q, h5, h5_, h9, h10, h11, h11_, h15, h15_]; done) | (simp [h1, h2, h3_, h3__, h3q, h5, h5_, h9, h10, h11, h11_, h15, h15_]; omega))
        refine AW.wk [(8, AV.lst true true (List.map (AV.int .u8) ([] : List Int))), (48, AV.agg (List.map (AV.int .u32) v7)), (49, AV.int .i64 0)] [] 2 (by simp [h1, h2, h3_, h3__, h3q, h5, h5_, h9, h10, h11, h11_, h15, h15_]) (by simp [h1, h2, h3_, h3__, h3q, h5, h5_, h9, h10, h11, h11_, h15, h15_]) (by simp) ?_
        refine AW.block ?_
        refine AW.own' 8 1 true (by simp [h1, h2, h3_, h3__, h3q, h5, h5_, h9, h10, h11, h11_, h15, h15_]) (by decide) ?_
        refine AW.rnm (m := 0) h0 [(0, 2)] [(8, AV.slc 0 0 1 (([] : List Int).length) false), (48, AV.agg (List.map (AV.int .u32) v7)), (49, AV.int .i64 0)] [(0, .grow (List.map (AV.int .u8) ([] : List Int)))] 1 (by decide) (by decide) (by decide) rfl (by simp [h1, h2, h3_, h3__, h3q, h5, h5_, h9, h10, h11, h11_, h15, h15_]) (by simp [h1, h2, h3_, h3__, h3q, h5, h5_, h9, h10, h11, h11_, h15, h15_]) ?_
        refine AW.loopF (α := (Int × (List Int))) (fun n (v9, v10) => digest_Sum.L4 k v7 n v9 v10 = some v1) (fun (v9, v10) => [(8, AV.slc 0 0 1 v10.length false), (48, AV.agg (List.map (AV.int .u32) v7)), (49, AV.int .i64 v9)]) (fun (v9, v10) => [(0, .grow (List.map (AV.int .u8) v10))]) 1 k ((0, ([] : List Int))) hF (by simp [h1, h2, h3_, h3__, h3q, h5, h5_, h9, h10, h11, h11_, h15, h15_]) (by simp [h1, h2, h3_, h3__, h3q, h5, h5_, h9, h10, h11, h11_, h15, h15_]) (by simp) ?_
        rintro (_|n4) ⟨v9, v10⟩ hF K451 hK451
        · try dsimp only at hF
          rw [digest_Sum.L4] at hF; cases hF
        try dsimp only at hF
        rw [digest_Sum.L4] at hF
        refine AW.seqR mixed [] [none] (by kernel_rfl) fun G452 R452 hG452 hR452 => ?_
        try simp [h1, h2, h3_, h3__, h3q, h5, h5_, h9, h10, h11, h11_, h15, h15_]
        repeat' apply And.intro
        any_goals (first | exact hG452 _ (by kernel_rfl) | refine hR452 _ _ _ ?_ | omega | (unfold maxLen; omega) | (simp [h1, h2, h3_, h3__, h3q, h5, h5_, h9, h10, h11, h11_, h15, h15_]; done) | (simp [h1, h2, h3_, h3__, h3q, h5, h5_, h9, h10, h11, h11_, h15, h15_]; omega))
        refine AW.wk [(8, AV.slc 0 0 1 v10.length false), (48, AV.agg (List.map (AV.int .u32) v7)), (49, AV.int .i64 v9), (50, AV.bool (decide (v9 < 8)))] [(0, .grow (List.map (AV.int .u8) v10))] 1 (by simp [h1, h2, h3_, h3__, h3q, h5, h5_, h9, h10, h11, h11_, h15, h15_]) (by simp [h1, h2, h3_, h3__, h3q, h5, h5_, h9, h10, h11, h11_, h15, h15_]) (by simp) ?_
        refine AW.seq fun K453 hK453 => ?_
        by_cases h16 : v9 < 8
        · replace hF := ite_t h16 hF
          have h16_ := h16
          try simp at h16_
          refine AW.condT (by decide) (by first | (simp [h1, h2, h3_, h3__, h3q, h5, h5_, h9, h10, h11, h11_, h15, h15_, h16, h16_]; done) | (simp [h1, h2, h3_, h3__, h3q, h5, h5_, h9, h10, h11, h11_, h15, h15_, h16, h16_]; omega)) ?_
          refine AW.skip ?_
          refine hK453 _ _ _ ?_
          refine AW.seq fun K456 hK456 => ?_
          refine AW.block ?_
          refine AW.seqR mixed [] [none, none] (by kernel_rfl) fun G457 R457 hG457 hR457 => ?_
          obtain ⟨h17, hF⟩ := chk_elim hF
          obtain ⟨v11, h18, h19, h20, hF⟩ := idx_elim hF
          have h20_ := get_of h20
          try simp at h20_
          have h19_ := h19
          try simp at h19_
          try simp [h1, h2, h3_, h3__, h3q, h5, h5_, h9, h10, h11, h11_, h15, h15_, h16, h16_, h17, h18, h19, h20, h20_, h19_]
          repeat' apply And.intro
          any_goals (first | exact hG457 _ (by kernel_rfl) | refine hR457 _ _ _ ?_ | omega | (unfold maxLen; omega) | (simp [h1, h2, h3_, h3__, h3q, h5, h5_, h9, h10, h11, h11_, h15, h15_, h16, h16_, h17, h18, h19, h20, h20_, h19_]; done) | (simp [h1, h2, h3_, h3__, h3q, h5, h5_, h9, h10, h11, h11_, h15, h15_, h16, h16_, h17, h18, h19, h20, h20_, h19_]; omega))
          refine AW.wk [(8, AV.slc 0 0 1 v10.length false), (10, AV.int .u32 v11), (48, AV.agg (List.map (AV.int .u32) v7)), (49, AV.int .i64 v9)] [(0, .grow (List.map (AV.int .u8) v10))] 1 (by simp [h1, h2, h3_, h3__, h3q, h5, h5_, h9, h10, h11, h11_, h15, h15_, h16, h16_, h17, h18, h19, h20, h20_, h19_]) (by simp [h1, h2, h3_, h3__, h3q, h5, h5_, h9, h10, h11, h11_, h15, h15_, h16, h16_, h17, h18, h19, h20, h20_, h19_]) (by simp) ?_
          refine AW.region mixed [] [none, none, none, none, none, none, none, none, none, none, none, none, none, none, none] (by kernel_rfl) fun G458 R458 hG458 hR458 => ?_
          obtain ⟨h21, hF⟩ := chk_elim hF
          have h21_ := h21
          try simp at h21_
          try simp [h1, h2, h3_, h3__, h3q, h5, h5_, h9, h10, h11, h11_, h15, h15_, h16, h16_, h17, h18, h19, h20, h20_, h19_, h21]
          repeat' apply And.intro
          any_goals (first | exact hG458 _ (by kernel_rfl) | refine hR458 _ _ _ ?_ | omega | (unfold maxLen; omega) | (simp [h1, h2, h3_, h3__, h3q, h5, h5_, h9, h10, h11, h11_, h15, h15_, h16, h16_, h17, h18, h19, h20, h20_, h19_, h21]; done) | (simp [h1, h2, h3_, h3__, h3q, h5, h5_, h9, h10, h11, h11_, h15, h15_, h16, h16_, h17, h18, h19, h20, h20_, h19_, h21]; omega))
          refine hK456 _ _ _ ?_
          refine AW.wk [(8, AV.slc 1 0 1 ((v10 ++ ([IntKind.wrap .u8 (Int.fdiv v11 (2 ^ (24))), IntKind.wrap .u8 (Int.fdiv v11 (2 ^ (16))), IntKind.wrap .u8 (Int.fdiv v11 (2 ^ (8))), IntKind.wrap .u8 v11] : List Int)).length) false), (48, AV.agg (List.map (AV.int .u32) v7)), (49, AV.int .i64 v9)] [(1, .grow (List.map (AV.int .u8) (v10 ++ ([IntKind.wrap .u8 (Int.fdiv v11 (2 ^ (24))), IntKind.wrap .u8 (Int.fdiv v11 (2 ^ (16))), IntKind.wrap .u8 (Int.fdiv v11 (2 ^ (8))), IntKind.wrap .u8 v11] : List Int))))] 2 (by simp [h1, h2, h3_, h3__, h3q, h5, h5_, h9, h10, h11, h11_, h15, h15_, h16, h16_, h17, h18, h19, h20, h20_, h19_, h21]) (by simp [h1, h2, h3_, h3__, h3q, h5, h5_, h9, h10, h11, h11_, h15, h15_, h16, h16_, h17, h18, h19, h20, h20_, h19_, h21]) (by simp) ?_
          refine AW.region mixed [] [none, none] (by kernel_rfl) fun G459 R459 hG459 hR459 => ?_
          try simp [h1, h2, h3_, h3__, h3q, h5, h5_, h9, h10, h11, h11_, h15, h15_, h16, h16_, h17, h18, h19, h20, h20_, h19_, h21]
          repeat' apply And.intro
          any_goals (first | exact hG459 _ (by kernel_rfl) | refine hR459 _ _ _ ?_ | omega | (unfold maxLen; omega) | (simp [h1, h2, h3_, h3__, h3q, h5, h5_, h9, h10, h11, h11_, h15, h15_, h16, h16_, h17, h18, h19, h20, h20_, h19_, h21]; done) | (simp [h1, h2, h3_, h3__, h3q, h5, h5_, h9, h10, h11, h11_, h15, h15_, h16, h16_, h17, h18, h19, h20, h20_, h19_, h21]; omega))
          refine hK451 _ _ _ ?_
          refine Can.weak [(8, AV.slc 1 0 1 ((v10 ++ ([IntKind.wrap .u8 (Int.fdiv v11 (2 ^ (24))), IntKind.wrap .u8 (Int.fdiv v11 (2 ^ (16))), IntKind.wrap .u8 (Int.fdiv v11 (2 ^ (8))), IntKind.wrap .u8 v11] : List Int)).length) false), (48, AV.agg (List.map (AV.int .u32) v7)), (49, AV.int .i64 (IntKind.wrap .i64 (v9 + 1)))] [(1, .grow (List.map (AV.int .u8) (v10 ++ ([IntKind.wrap .u8 (Int.fdiv v11 (2 ^ (24))), IntKind.wrap .u8 (Int.fdiv v11 (2 ^ (16))), IntKind.wrap .u8 (Int.fdiv v11 (2 ^ (8))), IntKind.wrap .u8 v11] : List Int))))] 2 (by simp [h1, h2, h3_, h3__, h3q, h5, h5_, h9, h10, h11, h11_, h15, h15_, h16, h16_, h17, h18, h19, h20, h20_, h19_, h21]) (by simp [h1, h2, h3_, h3__, h3q, h5, h5_, h9, h10, h11, h11_, h15, h15_, h16, h16_, h17, h18, h19, h20, h20_, h19_, h21]) (by simp) ?_
          refine Can.ren (m := 0) h0 [(0, 1)] [(8, AV.slc 0 0 1 ((v10 ++ ([IntKind.wrap .u8 (Int.fdiv v11 (2 ^ (24))), IntKind.wrap .u8 (Int.fdiv v11 (2 ^ (16))), IntKind.wrap .u8 (Int.fdiv v11 (2 ^ (8))), IntKind.wrap .u8 v11] : List Int)).length) false), (48, AV.agg (List.map (AV.int .u32) v7)), (49, AV.int .i64 (IntKind.wrap .i64 (v9 + 1)))] [(0, .grow (List.map (AV.int .u8) (v10 ++ ([IntKind.wrap .u8 (Int.fdiv v11 (2 ^ (24))), IntKind.wrap .u8 (Int.fdiv v11 (2 ^ (16))), IntKind.wrap .u8 (Int.fdiv v11 (2 ^ (8))), IntKind.wrap .u8 v11] : List Int))))] 1 (by decide) (by decide) (by decide) rfl (by simp [h1, h2, h3_, h3__, h3q, h5, h5_, h9, h10, h11, h11_, h15, h15_, h16, h16_, h17, h18, h19, h20, h20_, h19_, h21]) (by simp [h1, h2, h3_, h3__, h3q, h5, h5_, h9, h10, h11, h11_, h15, h15_, h16, h16_, h17, h18, h19, h20, h20_, h19_, h21]) ?_
          exact Can.next (k' := n4) ((IntKind.wrap .i64 (v9 + 1), v10 ++ ([IntKind.wrap .u8 (Int.fdiv v11 (2 ^ (24))), IntKind.wrap .u8 (Int.fdiv v11 (2 ^ (16))), IntKind.wrap .u8 (Int.fdiv v11 (2 ^ (8))), IntKind.wrap .u8 v11] : List Int))) (by omega) hF (by simp [h1, h2, h3_, h3__, h3q, h5, h5_, h9, h10, h11, h11_, h15, h15_, h16, h16_, h17, h18, h19, h20, h20_, h19_, h21]) (by simp [h1, h2, h3_, h3__, h3q, h5, h5_, h9, h10, h11, h11_, h15, h15_, h16, h16_, h17, h18, h19, h20, h20_, h19_, h21]) (by simp)
        · replace hF := ite_f h16 hF
          have h16_ := h16
          try simp at h16_
          refine AW.condF (by decide) (by first | (simp [h1, h2, h3_, h3__, h3q, h5, h5_, h9, h10, h11, h11_, h15, h15_, h16, h16_]; done) | (simp [h1, h2, h3_, h3__, h3q, h5, h5_, h9, h10, h11, h11_, h15, h15_, h16, h16_]; omega)) ?_
          refine AW.exit ?_
          try simp
          refine hK425 _ _ _ ?_
          refine AW.wk [(8, AV.slc 0 0 1 v10.length false)] [(0, .grow (List.map (AV.int .u8) v10))] 1 (by simp [h1, h2, h3_, h3__, h3q, h5, h5_, h9, h10, h11, h11_, h15, h15_, h16, h16_]) (by simp [h1, h2, h3_, h3__, h3q, h5, h5_, h9, h10, h11, h11_, h15, h15_, h16, h16_]) (by simp) ?_
          refine AW.frz 0 (o := .grow (List.map (AV.int .u8) v10)) (by simp [h1, h2, h3_, h3__, h3q, h5, h5_, h9, h10, h11, h11_, h15, h15_, h16, h16_]) rfl [(8, AV.lst false false (List.map (AV.int .u8) v10))] [] ⟨(.l (by simp) (by simp) (by simp) (by simp)), trivial⟩ trivial ?_
          refine AW.wk [(8, AV.lst false false (List.map (AV.int .u8) v10))] [] 1 (by simp [h1, h2, h3_, h3__, h3q, h5, h5_, h9, h10, h11, h11_, h15, h15_, h16, h16_]) (by simp [h1, h2, h3_, h3__, h3q, h5, h5_, h9, h10, h11, h11_, h15, h15_, h16, h16_]) (by simp) ?_
          refine AW.seqR mixed [] [none, none, none] (by kernel_rfl) fun G460 R460 hG460 hR460 => ?_
          try simp [h1, h2, h3_, h3__, h3q, h5, h5_, h9, h10, h11, h11_, h15, h15_, h16, h16_]
          repeat' apply And.intro
          any_goals (first | exact hG460 _ (by kernel_rfl) | refine hR460 _ _ _ ?_ | omega | (unfold maxLen; omega) | (simp [h1, h2, h3_, h3__, h3q, h5, h5_, h9, h10, h11, h11_, h15, h15_, h16, h16_]; done) | (simp [h1, h2, h3_, h3__, h3q, h5, h5_, h9, h10, h11, h11_, h15, h15_, h16, h16_]; omega))
          refine AW.wk [(2, AV.str (ofI v10))] [] 1 (by simp [h1, h2, h3_, h3__, h3q, h5, h5_, h9, h10, h11, h11_, h15, h15_, h16, h16_]) (by simp [h1, h2, h3_, h3__, h3q, h5, h5_, h9, h10, h11, h11_, h15, h15_, h16, h16_]) (by simp) ?_
          simp only [Option.some.injEq] at hF
          subst hF
          refine AW.ret (hQ _ _ _ ?_ (matchO_0 ?_)).1
          · simp [Try.f14, h1, h2, h3_, h3__, h3q, h5, h5_, h9, h10, h11, h11_, h15, h15_, h16, h16_]
          · simp [h1, h2, h3_, h3__, h3q, h5, h5_, h9, h10, h11, h11_, h15, h15_, h16, h16_]
set_option maxHeartbeats 4000000 in
theorem w_digest_Hex (k : Nat) (v0 : ByteArray) (v1 : ByteArray) (hF : digest_Hex k v0 = some v1) :
    FCall Try.prog 57 [AV.str v0] [] (AV.str v1) [] := by
  unfold digest_Hex at hF
  refine FCall.enter Try.func57 rfl (by simp) (by decide) (by simp) (by simp) (by simp) (by simp) (by simp) ?_
  intro c0 w0 Q h0 hQ
  refine AW.wk [(0, AV.str v0)] [] 0 (by simp) (by simp) (by simp) ?_
  refine AW.seqR mixed [] [none] (by kernel_rfl) fun G73 R73 hG73 hR73 => ?_
  try simp
  repeat' apply And.intro
  any_goals (first | exact hG73 _ (by kernel_rfl) | refine hR73 _ _ _ ?_ | omega | (unfold maxLen; omega) | (simp; done) | (simp; omega))
  refine AW.wk [(0, AV.str v0)] [] 0 (by simp) (by simp) (by simp) ?_
  refine AW.seqR mixed [] [none] (by kernel_rfl) fun G74 R74 hG74 hR74 => ?_
  try simp
  repeat' apply And.intro
  any_goals (first | exact hG74 _ (by kernel_rfl) | refine hR74 _ _ _ ?_ | omega | (unfold maxLen; omega) | (simp; done) | (simp; omega))
  refine AW.wk [(0, AV.str v0), (3, AV.lst true true (List.map (AV.int .u8) ([] : List Int)))] [] 0 (by simp) (by simp) (by simp) ?_
  refine AW.seq fun K109 hK109 => ?_
  refine AW.seqR mixed [] [none, none, none] (by kernel_rfl) fun G110 R110 hG110 hR110 => ?_
  try simp
  repeat' apply And.intro
  any_goals (first | exact hG110 _ (by kernel_rfl) | refine hR110 _ _ _ ?_ | omega | (unfold maxLen; omega) | (simp; done) | (simp; omega))
  refine AW.wk [(0, AV.str v0), (3, AV.lst true true (List.map (AV.int .u8) ([] : List Int))), (6, AV.int .i64 (v0.size : Int)), (7, AV.int .i64 0)] [] 0 (by simp) (by simp) (by simp) ?_
  refine AW.block ?_
  refine AW.own' 3 1 true (by simp) (by decide) ?_
  refine AW.loopF (α := (Int × (List Int))) (fun n (v2, v3) => digest_Hex.L1 k v0 n v2 v3 = some v1) (fun (v2, v3) => [(0, AV.str v0), (3, AV.slc 0 0 1 v3.length false), (6, AV.int .i64 (v0.size : Int)), (7, AV.int .i64 v2)]) (fun (v2, v3) => [(0, .grow (List.map (AV.int .u8) v3))]) 1 k ((0, ([] : List Int))) hF (by simp) (by simp) (by simp) ?_
  rintro (_|n1) ⟨v2, v3⟩ hF K135 hK135
  · try dsimp only at hF
    rw [digest_Hex.L1] at hF; cases hF
  try dsimp only at hF
  rw [digest_Hex.L1] at hF
  refine AW.seqR mixed [] [none] (by kernel_rfl) fun G136 R136 hG136 hR136 => ?_
  try simp
  repeat' apply And.intro
  any_goals (first | exact hG136 _ (by kernel_rfl) | refine hR136 _ _ _ ?_ | omega | (unfold maxLen; omega) | (simp; done) | (simp; omega))
  refine AW.wk [(0, AV.str v0), (3, AV.slc 0 0 1 v3.length false), (6, AV.int .i64 (v0.size : Int)), (7, AV.int .i64 v2), (8, AV.bool (decide (v2 < (v0.size : Int))))] [(0, .grow (List.map (AV.int .u8) v3))] 1 (by simp) (by simp) (by simp) ?_
  refine AW.seq fun K137 hK137 => ?_
  by_cases h1 : v2 < (v0.size : Int)
  · replace hF := ite_t h1 hF
    have h1_ := h1
    try simp at h1_
    refine AW.condT (by decide) (by first | (simp [h1, h1_]; done) | (simp [h1, h1_]; omega)) ?_
    refine AW.skip ?_
    refine hK137 _ _ _ ?_
    refine AW.seq fun K140 hK140 => ?_
    refine AW.block ?_
    refine AW.seqR mixed [] [none, none] (by kernel_rfl) fun G141 R141 hG141 hR141 => ?_
    try simp [h1, h1_]
    repeat' apply And.intro
    any_goals (first | exact hG141 _ (by kernel_rfl) | refine hR141 _ _ _ ?_ | omega | (unfold maxLen; omega) | (simp [h1, h1_]; done) | (simp [h1, h1_]; omega))
    refine AW.wk [(0, AV.str v0), (3, AV.slc 0 0 1 v3.length false), (4, AV.int .i64 v2), (6, AV.int .i64 (v0.size : Int)), (7, AV.int .i64 v2)] [(0, .grow (List.map (AV.int .u8) v3))] 1 (by simp [h1, h1_]) (by simp [h1, h1_]) (by simp) ?_
    refine AW.region mixed [] [none, none, none, none, none, none, none, none, none, none, none, none, none, none] (by kernel_rfl) fun G142 R142 hG142 hR142 => ?_
    obtain ⟨v4, h2, h3, h4, hF⟩ := idx_elim hF
    have h4_ := get_of h4
    have h3_ := h3
    simp at h3_
    have h2_ := h2
    try simp at h2_
    have h4__ := h4_
    try simp [bI] at h4__
    have h4b := bI_at h4
    try simp at h4b
    obtain ⟨v5, h5, h6, h7, hF⟩ := idx_elim hF
    have h7_ := get_of h7
    have h6_ := h6
    simp at h6_
    have h5_ := h5
    try simp at h5_
    have h7__ := h7_
    try simp [bI] at h7__
    have h7b := bI_at h7
    try simp at h7b
    obtain ⟨v6, h8, h9, h10, hF⟩ := idx_elim hF
    have h10_ := get_of h10
    have h9_ := h9
    simp at h9_
    have h8_ := h8
    try simp at h8_
    have h10__ := h10_
    try simp [bI] at h10__
    have h10b := bI_at h10
    try simp at h10b
    obtain ⟨h11, hF⟩ := chk_elim hF
    have h11_ := h11
    try simp at h11_
    try simp [h1, h1_, h2, h2_, h3_, h4, h4_, h4__, h4b, h5, h5_, h6_, h7, h7_, h7__, h7b, h8, h8_, h9_, h10, h10_, h10__, h10b, h11]
    repeat' apply And.intro
    any_goals (first | exact hG142 _ (by kernel_rfl) | refine hR142 _ _ _ ?_ | omega | (unfold maxLen; omega) | (simp [h1, h1_, h2, h2_, h3_, h4, h4_, h4__, h4b, h5, h5_, h6_, h7, h7_, h7__, h7b, h8, h8_, h9_, h10, h10_, h10__, h10b, h11]; done) | (simp [h1, h1_, h2, h2_, h3_, h4, h4_, h4__, h4b, h5, h5_, h6_, h7, h7_, h7__, h7b, h8, h8_, h9_, h10, h10_, h10__, h10b, h11]; omega))
    refine hK140 _ _ _ ?_
    refine AW.wk [(0, AV.str v0), (3, AV.slc 1 0 1 ((v3 ++ ([v5, v6] : List Int)).length) false), (6, AV.int .i64 (v0.size : Int)), (7, AV.int .i64 v2)] [(1, .grow (List.map (AV.int .u8) (v3 ++ ([v5, v6] : List Int))))] 2 (by simp [h1, h1_, h2, h2_, h3_, h4, h4_, h4__, h4b, h5, h5_, h6_, h7, h7_, h7__, h7b, h8, h8_, h9_, h10, h10_, h10__, h10b, h11]) (by simp [h1, h1_, h2, h2_, h3_, h4, h4_, h4__, h4b, h5, h5_, h6_, h7, h7_, h7__, h7b, h8, h8_, h9_, h10, h10_, h10__, h10b, h11]) (by simp) ?_
    refine AW.region mixed [] [none, none] (by kernel_rfl) fun G143 R143 hG143 hR143 => ?_
    try simp [h1, h1_, h2, h2_, h3_, h4, h4_, h4__, h4b, h5, h5_, h6_, h7, h7_, h7__, h7b, h8, h8_, h9_, h10, h10_, h10__, h10b, h11]
    repeat' apply And.intro
    any_goals (first | exact hG143 _ (by kernel_rfl) | refine hR143 _ _ _ ?_ | omega | (unfold maxLen; omega) | (simp [h1, h1_, h2, h2_, h3_, h4, h4_, h4__, h4b, h5, h5_, h6_, h7, h7_, h7__, h7b, h8, h8_, h9_, h10, h10_, h10__, h10b, h11]; done) | (simp [h1, h1_, h2, h2_, h3_, h4, h4_, h4__, h4b, h5, h5_, h6_, h7, h7_, h7__, h7b, h8, h8_, h9_, h10, h10_, h10__, h10b, h11]; omega))
    refine hK135 _ _ _ ?_
    refine Can.weak [(0, AV.str v0), (3, AV.slc 1 0 1 ((v3 ++ ([v5, v6] : List Int)).length) false), (6, AV.int .i64 (v0.size : Int)), (7, AV.int .i64 (IntKind.wrap .i64 (v2 + 1)))] [(1, .grow (List.map (AV.int .u8) (v3 ++ ([v5, v6] : List Int))))] 2 (by simp [h1, h1_, h2, h2_, h3_, h4, h4_, h4__, h4b, h5, h5_, h6_, h7, h7_, h7__, h7b, h8, h8_, h9_, h10, h10_, h10__, h10b, h11]) (by simp [h1, h1_, h2, h2_, h3_, h4, h4_, h4__, h4b, h5, h5_, h6_, h7, h7_, h7__, h7b, h8, h8_, h9_, h10, h10_, h10__, h10b, h11]) (by simp) ?_
    refine Can.ren (m := 0) h0 [(0, 1)] [(0, AV.str v0), (3, AV.slc 0 0 1 ((v3 ++ ([v5, v6] : List Int)).length) false), (6, AV.int .i64 (v0.size : Int)), (7, AV.int .i64 (IntKind.wrap .i64 (v2 + 1)))] [(0, .grow (List.map (AV.int .u8) (v3 ++ ([v5, v6] : List Int))))] 1 (by decide) (by decide) (by decide) rfl (by simp [h1, h1_, h2, h2_, h3_, h4, h4_, h4__, h4b, h5, h5_, h6_, h7, h7_, h7__, h7b, h8, h8_, h9_, h10, h10_, h10__, h10b, h11]) (by simp [h1, h1_, h2, h2_, h3_, h4, h4_, h4__, h4b, h5, h5_, h6_, h7, h7_, h7__, h7b, h8, h8_, h9_, h10, h10_, h10__, h10b, h11]) ?_
    exact Can.next (k' := n1) ((IntKind.wrap .i64 (v2 + 1), v3 ++ ([v5, v6] : List Int))) (by omega) hF (by simp [h1, h1_, h2, h2_, h3_, h4, h4_, h4__, h4b, h5, h5_, h6_, h7, h7_, h7__, h7b, h8, h8_, h9_, h10, h10_, h10__, h10b, h11]) (by simp [h1, h1_, h2, h2_, h3_, h4, h4_, h4__, h4b, h5, h5_, h6_, h7, h7_, h7__, h7b, h8, h8_, h9_, h10, h10_, h10__, h10b, h11]) (by simp)
  · replace hF := ite_f h1 hF
    have h1_ := h1
    try simp at h1_
    refine AW.condF (by decide) (by first | (simp [h1, h1_]; done) | (simp [h1, h1_]; omega)) ?_
    refine AW.exit ?_
    try simp
    refine hK109 _ _ _ ?_
    refine AW.wk [(3, AV.slc 0 0 1 v3.length false)] [(0, .grow (List.map (AV.int .u8) v3))] 1 (by simp [h1, h1_]) (by simp [h1, h1_]) (by simp) ?_
    refine AW.frz 0 (o := .grow (List.map (AV.int .u8) v3)) (by simp [h1, h1_]) rfl [(3, AV.lst false false (List.map (AV.int .u8) v3))] [] ⟨(.l (by simp) (by simp) (by simp) (by simp)), trivial⟩ trivial ?_
    refine AW.wk [(3, AV.lst false false (List.map (AV.int .u8) v3))] [] 1 (by simp [h1, h1_]) (by simp [h1, h1_]) (by simp) ?_
    refine AW.seqR mixed [] [none, none, none] (by kernel_rfl) fun G144 R144 hG144 hR144 => ?_
    try simp [h1, h1_]
    repeat' apply And.intro
    any_goals (first | exact hG144 _ (by kernel_rfl) | refine hR144 _ _ _ ?_ | omega | (unfold maxLen; omega) | (simp [h1, h1_]; done) | (simp [h1, h1_]; omega))
    refine AW.wk [(2, AV.str (ofI v3))] [] 1 (by simp [h1, h1_]) (by simp [h1, h1_]) (by simp) ?_
    simp only [Option.some.injEq] at hF
    subst hF
    refine AW.ret (hQ _ _ _ ?_ (matchO_0 ?_)).1
    · simp [Try.f57, h1, h1_]
    · simp [h1, h1_]
set_option maxHeartbeats 4000000 in
theorem w_law01_awake (k : Nat) (v0 : Bool) (hF : law01_awake k = some v0) :
    FCall Try.prog 13 [] [] (AV.bool v0) [] := by
  unfold law01_awake at hF
  refine FCall.enter Try.func13 rfl (by simp) (by decide) (by simp) (by simp) (by simp) (by simp) (by simp) ?_
  intro c0 w0 Q h0 hQ
  refine AW.wk [] [] 0 (by simp) (by simp) (by simp) ?_
  refine AW.seqR mixed [] [none] (by kernel_rfl) fun G3 R3 hG3 hR3 => ?_
  try simp
  repeat' apply And.intro
  any_goals (first | exact hG3 _ (by kernel_rfl) | refine hR3 _ _ _ ?_ | omega | (unfold maxLen; omega) | (simp; done) | (simp; omega))
  refine AW.wk [] [] 0 (by simp) (by simp) (by simp) ?_
  refine AW.seqR mixed [1] [none, none, none, none, none, none] (by kernel_rfl) fun G4 R4 hG4 hR4 => ?_
  try simp
  repeat' apply And.intro
  try any_goals (first | omega | (unfold maxLen; omega) | (simp; done))
  obtain ⟨v1, h1, hF⟩ := bnd1_elim hF
  refine aCall_l (w_digest_Sum k _ _ h1) (by simp) [] [0] [] rfl (.cons (Coe.l (o := .cells (List.map (AV.int .u8) ([97, 98, 99] : List Int))) (by simp) rfl (by simp) (by simp [noIdsL]) (by simp) (by simp)) .nil) (by simp) (by decide) (by simp) (by simp) (.inr ⟨by simp, by simp⟩) (by simp) (by simp) ?_
  try simp
  repeat' apply And.intro
  try any_goals (first | omega | (unfold maxLen; omega) | (simp; done))
  obtain ⟨v2, h2, hF⟩ := bnd1_elim hF
  refine aCall_l (w_digest_Hex k _ _ h2) (by simp) [] [] [] rfl (.cons (.same (by simp)) .nil) (by simp) (by decide) (by simp) (by simp) (.inl rfl) (by simp) (by simp) ?_
  try simp
  repeat' apply And.intro
  any_goals (first | exact hG4 _ (by kernel_rfl) | refine hR4 _ _ _ ?_ | omega | (unfold maxLen; omega) | (simp; done) | (simp; omega))
  refine AW.wk [(0, AV.bool (strEq v2 (ByteArray.mk #[98, 97, 55, 56, 49, 54, 98, 102, 56, 102, 48, 49, 99, 102, 101, 97, 52, 49, 52, 49, 52, 48, 100, 101, 53, 100, 97, 101, 50, 50, 50, 51, 98, 48, 48, 51, 54, 49, 97, 51, 57, 54, 49, 55, 55, 97, 57, 99, 98, 52, 49, 48, 102, 102, 54, 49, 102, 50, 48, 48, 49, 53, 97, 100])))] [] 1 (by simp) (by simp) (by simp) ?_
  simp only [Option.some.injEq] at hF
  subst hF
  refine AW.ret (hQ _ _ _ ?_ (matchO_0 ?_)).1
  · simp [Try.f13]
  · simp
set_option maxHeartbeats 4000000 in
theorem w_ref01_constants (k : Nat) (v0 : (List Int)) (hF : ref01_constants k = some v0) :
    FCall Try.prog 60 [] [] (AV.lst false false (List.map (AV.int .u32) v0)) [] := by
  unfold ref01_constants at hF
  refine FCall.enter Try.func60 rfl (by simp) (by decide) (by simp) (by simp) (by simp) (by simp) (by simp) ?_
  intro c0 w0 Q h0 hQ
  refine AW.wk [] [] 0 (by simp) (by simp) (by simp) ?_
  refine AW.seqR mixed [] [none] (by kernel_rfl) fun G3 R3 hG3 hR3 => ?_
  try simp
  repeat' apply And.intro
  any_goals (first | exact hG3 _ (by kernel_rfl) | refine hR3 _ _ _ ?_ | omega | (unfold maxLen; omega) | (simp; done) | (simp; omega))
  refine AW.wk [] [] 0 (by simp) (by simp) (by simp) ?_
  refine AW.seqR mixed [] [none, none] (by kernel_rfl) fun G4 R4 hG4 hR4 => ?_
  try simp
  repeat' apply And.intro
  any_goals (first | exact hG4 _ (by kernel_rfl) | refine hR4 _ _ _ ?_ | omega | (unfold maxLen; omega) | (simp; done) | (simp; omega))
  refine AW.wk [(0, AV.lst false true (List.map (AV.int .u32) ([1116352408, 1899447441, 3049323471, 3921009573, 961987163, 1508970993, 2453635748, 2870763221, 3624381080, 310598401, 607225278, 1426881987, 1925078388, 2162078206, 2614888103, 3248222580, 3835390401, 4022224774, 264347078, 604807628, 770255983, 1249150122, 1555081692, 1996064986, 2554220882, 2821834349, 2952996808, 3210313671, 3336571891, 3584528711, 113926993, 338241895, 666307205, 773529912, 1294757372, 1396182291, 1695183700, 1986661051, 2177026350, 2456956037, 2730485921, 2820302411, 3259730800, 3345764771, 3516065817, 3600352804, 4094571909, 275423344, 430227734, 506948616, 659060556, 883997877, 958139571, 1322822218, 1537002063, 1747873779, 1955562222, 2024104815, 2227730452, 2361852424, 2428436474, 2756734187, 3204031479, 3329325298] : List Int)))] [] 0 (by simp) (by simp) (by simp) ?_
  refine AW.flg [(0, AV.lst false false (List.map (AV.int .u32) ([1116352408, 1899447441, 3049323471, 3921009573, 961987163, 1508970993, 2453635748, 2870763221, 3624381080, 310598401, 607225278, 1426881987, 1925078388, 2162078206, 2614888103, 3248222580, 3835390401, 4022224774, 264347078, 604807628, 770255983, 1249150122, 1555081692, 1996064986, 2554220882, 2821834349, 2952996808, 3210313671, 3336571891, 3584528711, 113926993, 338241895, 666307205, 773529912, 1294757372, 1396182291, 1695183700, 1986661051, 2177026350, 2456956037, 2730485921, 2820302411, 3259730800, 3345764771, 3516065817, 3600352804, 4094571909, 275423344, 430227734, 506948616, 659060556, 883997877, 958139571, 1322822218, 1537002063, 1747873779, 1955562222, 2024104815, 2227730452, 2361852424, 2428436474, 2756734187, 3204031479, 3329325298] : List Int)))] [] ⟨(.lst (by simp)), trivial⟩ trivial (by simp) ?_
  simp only [Option.some.injEq] at hF
  subst hF
  refine AW.ret (hQ _ _ _ ?_ (matchO_0 ?_)).1
  · simp [Try.f60]
  · simp
set_option maxHeartbeats 4000000 in
theorem w_ref01_turn (k : Nat) (v0 : Int) (v1 : Int) (v2 : Int) (hF : ref01_turn k v0 v1 = some v2) :
    FCall Try.prog 95 [AV.int .u32 v0, AV.int .u64 v1] [] (AV.int .u32 v2) [] := by
  unfold ref01_turn at hF
  refine FCall.enter Try.func95 rfl (by simp) (by decide) (by simp) (by simp) (by simp) (by simp) (by simp) ?_
  intro c0 w0 Q h0 hQ
  refine AW.wk [(0, AV.int .u32 v0), (1, AV.int .u64 v1)] [] 0 (by simp) (by simp) (by simp) ?_
  refine AW.seqR mixed [] [none] (by kernel_rfl) fun G3 R3 hG3 hR3 => ?_
  try simp
  repeat' apply And.intro
  any_goals (first | exact hG3 _ (by kernel_rfl) | refine hR3 _ _ _ ?_ | omega | (unfold maxLen; omega) | (simp; done) | (simp; omega))
  refine AW.wk [(0, AV.int .u32 v0), (1, AV.int .u64 v1)] [] 0 (by simp) (by simp) (by simp) ?_
  refine AW.seqR mixed [] [none, none, none, none, none, none, none, none, none] (by kernel_rfl) fun G4 R4 hG4 hR4 => ?_
  obtain ⟨h1, hF⟩ := chk_elim hF
  obtain ⟨h2, hF⟩ := chk_elim hF
  try simp [h1, h2]
  repeat' apply And.intro
  any_goals (first | exact hG4 _ (by kernel_rfl) | refine hR4 _ _ _ ?_ | omega | (unfold maxLen; omega) | (simp [h1, h2]; done) | (simp [h1, h2]; omega))
  refine AW.wk [(4, AV.int .u32 (bitsV .or .u32 (Int.fdiv v0 (2 ^ (min v1.toNat 32))) (IntKind.wrap .u32 (v0 * 2 ^ (min ((IntKind.wrap .u64 (32 - v1)).toNat) 32)))))] [] 0 (by simp [h1, h2]) (by simp [h1, h2]) (by simp) ?_
  simp only [Option.some.injEq] at hF
  subst hF
  refine AW.ret (hQ _ _ _ ?_ (matchO_0 ?_)).1
  · simp [Try.f95, h1, h2]
  · simp [h1, h2]
set_option maxHeartbeats 4000000 in
theorem w_ref01_block (k : Nat) (v0 : (List Int)) (v1 : (List Int)) (v2 : (List Int)) (v3 : (List Int)) (hF : ref01_block k v0 v1 v2 = some v3) :
    FCall Try.prog 61 [AV.lst false false (List.map (AV.int .u32) v0), AV.lst false false (List.map (AV.int .u8) v1), AV.lst false false (List.map (AV.int .u32) v2)] [] (AV.slc 0 0 1 v3.length false) [some (.grow (List.map (AV.int .u32) v3))] := by
  unfold ref01_block at hF
  refine FCall.enter Try.func61 rfl (by simp) (by decide) (by simp) (by simp) (by simp) (by simp) (by simp) ?_
  intro c0 w0 Q h0 hQ
  refine AW.wk [(0, AV.lst false false (List.map (AV.int .u32) v0)), (1, AV.lst false false (List.map (AV.int .u8) v1)), (2, AV.lst false false (List.map (AV.int .u32) v2))] [] 0 (by simp [-List.reduceReplicate, sOf_set, ofI_set, allU8_set]) (by simp [-List.reduceReplicate, sOf_set, ofI_set, allU8_set]) (by simp) ?_
  refine AW.seqR mixed [] [none] (by kernel_rfl) fun G361 R361 hG361 hR361 => ?_
  try simp [-List.reduceReplicate, sOf_set, ofI_set, allU8_set]
  repeat' apply And.intro
  any_goals (first | exact hG361 _ (by kernel_rfl) | refine hR361 _ _ _ ?_ | omega | (unfold maxLen; omega) | (simp [-List.reduceReplicate, sOf_set, ofI_set, allU8_set]; done) | (simp [-List.reduceReplicate, sOf_set, ofI_set, allU8_set]; omega))
  refine AW.wk [(0, AV.lst false false (List.map (AV.int .u32) v0)), (1, AV.lst false false (List.map (AV.int .u8) v1)), (2, AV.lst false false (List.map (AV.int .u32) v2))] [] 0 (by simp [-List.reduceReplicate, sOf_set, ofI_set, allU8_set]) (by simp [-List.reduceReplicate, sOf_set, ofI_set, allU8_set]) (by simp) ?_
  refine AW.seqR mixed [19] [none, none] (by kernel_rfl) fun G362 R362 hG362 hR362 => ?_
  obtain ⟨h1, hF⟩ := chk_elim hF
  obtain ⟨v4, h2, hF⟩ := let1_elim hF
  have h2l : v4.length = 64 := by rw [← h2]; exact List.length_replicate
  have h2m : List.replicate 64 (AV.int .u32 0) = List.map (AV.int .u32) v4 := by rw [← h2]; exact (List.map_replicate ..).symm
  have h2n := ne_of_len h2l (by decide)
  try simp [-List.reduceReplicate, sOf_set, ofI_set, allU8_set, h1, h2l, h2m, h2n]
  repeat' apply And.intro
  any_goals (first | exact hG362 _ (by kernel_rfl) | refine hR362 _ _ _ ?_ | omega | (unfold maxLen; omega) | (simp [-List.reduceReplicate, sOf_set, ofI_set, allU8_set, h1, h2l, h2m, h2n]; done) | (simp [-List.reduceReplicate, sOf_set, ofI_set, allU8_set, h1, h2l, h2m, h2n]; omega))
  refine AW.wk [(0, AV.lst false false (List.map (AV.int .u32) v0)), (1, AV.lst false false (List.map (AV.int .u8) v1)), (2, AV.lst false false (List.map (AV.int .u32) v2)), (7, AV.slc 0 0 1 v4.length true)] [(0, .cells (List.map (AV.int .u32) v4))] 1 (by simp [-List.reduceReplicate, sOf_set, ofI_set, allU8_set, h1, h2l, h2m, h2n]) (by simp [-List.reduceReplicate, sOf_set, ofI_set, allU8_set, h1, h2l, h2m, h2n]) (by simp) ?_
  refine AW.seq fun K393 hK393 => ?_
  refine AW.seqR mixed [] [none] (by kernel_rfl) fun G394 R394 hG394 hR394 => ?_
  try simp [-List.reduceReplicate, sOf_set, ofI_set, allU8_set, h1, h2l, h2m, h2n]
  repeat' apply And.intro
  any_goals (first | exact hG394 _ (by kernel_rfl) | refine hR394 _ _ _ ?_ | omega | (unfold maxLen; omega) | (simp [-List.reduceReplicate, sOf_set, ofI_set, allU8_set, h1, h2l, h2m, h2n]; done) | (simp [-List.reduceReplicate, sOf_set, ofI_set, allU8_set, h1, h2l, h2m, h2n]; omega))
  refine AW.wk [(0, AV.lst false false (List.map (AV.int .u32) v0)), (1, AV.lst false false (List.map (AV.int .u8) v1)), (2, AV.lst false false (List.map (AV.int .u32) v2)), (7, AV.slc 0 0 1 v4.length true), (8, AV.int .i64 0)] [(0, .cells (List.map (AV.int .u32) v4))] 1 (by simp [-List.reduceReplicate, sOf_set, ofI_set, allU8_set, h1, h2l, h2m, h2n]) (by simp [-List.reduceReplicate, sOf_set, ofI_set, allU8_set, h1, h2l, h2m, h2n]) (by simp) ?_
  refine AW.block ?_
  refine AW.loopF (α := (Int × (List Int))) (fun n (v5, v6) => ref01_block.L1 k v0 v1 v2 n v5 v6 = some v3) (fun (v5, v6) => [(0, AV.lst false false (List.map (AV.int .u32) v0)), (1, AV.lst false false (List.map (AV.int .u8) v1)), (2, AV.lst false false (List.map (AV.int .u32) v2)), (7, AV.slc 0 0 1 v6.length true), (8, AV.int .i64 v5)]) (fun (v5, v6) => [(0, .cells (List.map (AV.int .u32) v6))]) 1 k ((0, v4)) hF (by simp [-List.reduceReplicate, sOf_set, ofI_set, allU8_set, h1, h2l, h2m, h2n]) (by simp [-List.reduceReplicate, sOf_set, ofI_set, allU8_set, h1, h2l, h2m, h2n]) (by simp) ?_
  rintro (_|n1) ⟨v5, v6⟩ hF K416 hK416
  · try dsimp only at hF
    rw [ref01_block.L1] at hF; cases hF
  try dsimp only at hF
  rw [ref01_block.L1] at hF
  refine AW.seq fun K418 hK418 => ?_
  refine AW.seqR mixed [] [none, none] (by kernel_rfl) fun G419 R419 hG419 hR419 => ?_
  try simp [-List.reduceReplicate, sOf_set, ofI_set, allU8_set, h1, h2l, h2m, h2n]
  repeat' apply And.intro
  any_goals (first | exact hG419 _ (by kernel_rfl) | refine hR419 _ _ _ ?_ | omega | (unfold maxLen; omega) | (simp [-List.reduceReplicate, sOf_set, ofI_set, allU8_set, h1, h2l, h2m, h2n]; done) | (simp [-List.reduceReplicate, sOf_set, ofI_set, allU8_set, h1, h2l, h2m, h2n]; omega))
  refine AW.wk [(0, AV.lst false false (List.map (AV.int .u32) v0)), (1, AV.lst false false (List.map (AV.int .u8) v1)), (2, AV.lst false false (List.map (AV.int .u32) v2)), (7, AV.slc 0 0 1 v6.length true), (8, AV.int .i64 v5), (21, AV.bool (decide (v5 < 16)))] [(0, .cells (List.map (AV.int .u32) v6))] 1 (by simp [-List.reduceReplicate, sOf_set, ofI_set, allU8_set, h1, h2l, h2m, h2n]) (by simp [-List.reduceReplicate, sOf_set, ofI_set, allU8_set, h1, h2l, h2m, h2n]) (by simp) ?_
  by_cases h3 : v5 < 16
  · replace hF := ite_t h3 hF
    have h3_ := h3
    try simp at h3_
    refine AW.condT (by decide) (by first | (simp [-List.reduceReplicate, sOf_set, ofI_set, allU8_set, h1, h2l, h2m, h2n, h3, h3_]; done) | (simp [-List.reduceReplicate, sOf_set, ofI_set, allU8_set, h1, h2l, h2m, h2n, h3, h3_]; omega)) ?_
    refine AW.skip ?_
    refine hK418 _ _ _ ?_
    refine AW.seq fun K421 hK421 => ?_
    refine AW.block ?_
    refine AW.region mixed [] [none, none, none, none, none, none, none, none, none, none, none, none, none, none, none, none, none, none, none, none, none, none, none, none, none, none, none, none, none, none, none, none, none, none, none, none, none] (by kernel_rfl) fun G422 R422 hG422 hR422 => ?_
    obtain ⟨v7, h4, h5, h6, hF⟩ := idx_elim hF
    have h6_ := get_of h6
    try simp at h6_
    have h5_ := h5
    try simp at h5_
    obtain ⟨v8, h7, h8, h9, hF⟩ := idx_elim hF
    have h9_ := get_of h9
    try simp at h9_
    have h8_ := h8
    try simp at h8_
    obtain ⟨v9, h10, h11, h12, hF⟩ := idx_elim hF
    have h12_ := get_of h12
    try simp at h12_
    have h11_ := h11
    try simp at h11_
    obtain ⟨v10, h13, h14, h15, hF⟩ := idx_elim hF
    have h15_ := get_of h15
    try simp at h15_
    have h14_ := h14
    try simp at h14_
    obtain ⟨⟨h16, h17⟩, hF⟩ := chk_elim hF
    have h17_ := ne_of_lt h17
    try simp [-List.reduceReplicate, sOf_set, ofI_set, allU8_set, h1, h2l, h2m, h2n, h3, h3_, h4, h5, h6, h6_, h5_, h7, h8, h9, h9_, h8_, h10, h11, h12, h12_, h11_, h13, h14, h15, h15_, h14_, h16, h17, h17_]
    repeat' apply And.intro
    any_goals (first | exact hG422 _ (by kernel_rfl) | refine hR422 _ _ _ ?_ | omega | (unfold maxLen; omega) | (simp [-List.reduceReplicate, sOf_set, ofI_set, allU8_set, h1, h2l, h2m, h2n, h3, h3_, h4, h5, h6, h6_, h5_, h7, h8, h9, h9_, h8_, h10, h11, h12, h12_, h11_, h13, h14, h15, h15_, h14_, h16, h17, h17_]; done) | (simp [-List.reduceReplicate, sOf_set, ofI_set, allU8_set, h1, h2l, h2m, h2n, h3, h3_, h4, h5, h6, h6_, h5_, h7, h8, h9, h9_, h8_, h10, h11, h12, h12_, h11_, h13, h14, h15, h15_, h14_, h16, h17, h17_]; omega))
    refine hK421 _ _ _ ?_
    refine AW.wk [(0, AV.lst false false (List.map (AV.int .u32) v0)), (1, AV.lst false false (List.map (AV.int .u8) v1)), (2, AV.lst false false (List.map (AV.int .u32) v2)), (7, AV.slc 0 0 1 ((v6.set (v5).toNat (bitsV .or .u32 (bitsV .or .u32 (bitsV .or .u32 (IntKind.wrap .u32 ((IntKind.wrap .u32 v7) * 2 ^ (24))) (IntKind.wrap .u32 ((IntKind.wrap .u32 v8) * 2 ^ (16)))) (IntKind.wrap .u32 ((IntKind.wrap .u32 v9) * 2 ^ (8)))) (IntKind.wrap .u32 v10))).length) true), (8, AV.int .i64 v5)] [(0, .cells (List.map (AV.int .u32) (v6.set (v5).toNat (bitsV .or .u32 (bitsV .or .u32 (bitsV .or .u32 (IntKind.wrap .u32 ((IntKind.wrap .u32 v7) * 2 ^ (24))) (IntKind.wrap .u32 ((IntKind.wrap .u32 v8) * 2 ^ (16)))) (IntKind.wrap .u32 ((IntKind.wrap .u32 v9) * 2 ^ (8)))) (IntKind.wrap .u32 v10)))))] 1 (by simp [-List.reduceReplicate, sOf_set, ofI_set, allU8_set, h1, h2l, h2m, h2n, h3, h3_, h4, h5, h6, h6_, h5_, h7, h8, h9, h9_, h8_, h10, h11, h12, h12_, h11_, h13, h14, h15, h15_, h14_, h16, h17, h17_]) (by simp [-List.reduceReplicate, sOf_set, ofI_set, allU8_set, h1, h2l, h2m, h2n, h3, h3_, h4, h5, h6, h6_, h5_, h7, h8, h9, h9_, h8_, h10, h11, h12, h12_, h11_, h13, h14, h15, h15_, h14_, h16, h17, h17_]) (by simp) ?_
    refine AW.region mixed [] [none, none, none] (by kernel_rfl) fun G423 R423 hG423 hR423 => ?_
    try simp [-List.reduceReplicate, sOf_set, ofI_set, allU8_set, h1, h2l, h2m, h2n, h3, h3_, h4, h5, h6, h6_, h5_, h7, h8, h9, h9_, h8_, h10, h11, h12, h12_, h11_, h13, h14, h15, h15_, h14_, h16, h17, h17_]
    repeat' apply And.intro
    any_goals (first | exact hG423 _ (by kernel_rfl) | refine hR423 _ _ _ ?_ | omega | (unfold maxLen; omega) | (simp [-List.reduceReplicate, sOf_set, ofI_set, allU8_set, h1, h2l, h2m, h2n, h3, h3_, h4, h5, h6, h6_, h5_, h7, h8, h9, h9_, h8_, h10, h11, h12, h12_, h11_, h13, h14, h15, h15_, h14_, h16, h17, h17_]; done) | (simp [-List.reduceReplicate, sOf_set, ofI_set, allU8_set, h1, h2l, h2m, h2n, h3, h3_, h4, h5, h6, h6_, h5_, h7, h8, h9, h9_, h8_, h10, h11, h12, h12_, h11_, h13, h14, h15, h15_, h14_, h16, h17, h17_]; omega))
    refine hK416 _ _ _ ?_
    refine Can.weak [(0, AV.lst false false (List.map (AV.int .u32) v0)), (1, AV.lst false false (List.map (AV.int .u8) v1)), (2, AV.lst false false (List.map (AV.int .u32) v2)), (7, AV.slc 0 0 1 ((v6.set (v5).toNat (bitsV .or .u32 (bitsV .or .u32 (bitsV .or .u32 (IntKind.wrap .u32 ((IntKind.wrap .u32 v7) * 2 ^ (24))) (IntKind.wrap .u32 ((IntKind.wrap .u32 v8) * 2 ^ (16)))) (IntKind.wrap .u32 ((IntKind.wrap .u32 v9) * 2 ^ (8)))) (IntKind.wrap .u32 v10))).length) true), (8, AV.int .i64 (IntKind.wrap .i64 (v5 + 1)))] [(0, .cells (List.map (AV.int .u32) (v6.set (v5).toNat (bitsV .or .u32 (bitsV .or .u32 (bitsV .or .u32 (IntKind.wrap .u32 ((IntKind.wrap .u32 v7) * 2 ^ (24))) (IntKind.wrap .u32 ((IntKind.wrap .u32 v8) * 2 ^ (16)))) (IntKind.wrap .u32 ((IntKind.wrap .u32 v9) * 2 ^ (8)))) (IntKind.wrap .u32 v10)))))] 1 (by simp [-List.reduceReplicate, sOf_set, ofI_set, allU8_set, h1, h2l, h2m, h2n, h3, h3_, h4, h5, h6, h6_, h5_, h7, h8, h9, h9_, h8_, h10, h11, h12, h12_, h11_, h13, h14, h15, h15_, h14_, h16, h17, h17_]) (by simp [-List.reduceReplicate, sOf_set, ofI_set, allU8_set, h1, h2l, h2m, h2n, h3, h3_, h4, h5, h6, h6_, h5_, h7, h8, h9, h9_, h8_, h10, h11, h12, h12_, h11_, h13, h14, h15, h15_, h14_, h16, h17, h17_]) (by simp) ?_
    exact Can.next (k' := n1) ((IntKind.wrap .i64 (v5 + 1), v6.set (v5).toNat (bitsV .or .u32 (bitsV .or .u32 (bitsV .or .u32 (IntKind.wrap .u32 ((IntKind.wrap .u32 v7) * 2 ^ (24))) (IntKind.wrap .u32 ((IntKind.wrap .u32 v8) * 2 ^ (16)))) (IntKind.wrap .u32 ((IntKind.wrap .u32 v9) * 2 ^ (8)))) (IntKind.wrap .u32 v10)))) (by omega) hF (by simp [-List.reduceReplicate, sOf_set, ofI_set, allU8_set, h1, h2l, h2m, h2n, h3, h3_, h4, h5, h6, h6_, h5_, h7, h8, h9, h9_, h8_, h10, h11, h12, h12_, h11_, h13, h14, h15, h15_, h14_, h16, h17, h17_]) (by simp [-List.reduceReplicate, sOf_set, ofI_set, allU8_set, h1, h2l, h2m, h2n, h3, h3_, h4, h5, h6, h6_, h5_, h7, h8, h9, h9_, h8_, h10, h11, h12, h12_, h11_, h13, h14, h15, h15_, h14_, h16, h17, h17_]) (by simp)
  · replace hF := ite_f h3 hF
    have h3_ := h3
    try simp at h3_
    refine AW.condF (by decide) (by first | (simp [-List.reduceReplicate, sOf_set, ofI_set, allU8_set, h1, h2l, h2m, h2n, h3, h3_]; done) | (simp [-List.reduceReplicate, sOf_set, ofI_set, allU8_set, h1, h2l, h2m, h2n, h3, h3_]; omega)) ?_
    refine AW.exit ?_
    try simp
    refine hK393 _ _ _ ?_
    refine AW.seq fun K470 hK470 => ?_
    refine AW.seqR mixed [] [none] (by kernel_rfl) fun G471 R471 hG471 hR471 => ?_
    try simp [-List.reduceReplicate, sOf_set, ofI_set, allU8_set, h1, h2l, h2m, h2n, h3, h3_]
    repeat' apply And.intro
    any_goals (first | exact hG471 _ (by kernel_rfl) | refine hR471 _ _ _ ?_ | omega | (unfold maxLen; omega) | (simp [-List.reduceReplicate, sOf_set, ofI_set, allU8_set, h1, h2l, h2m, h2n, h3, h3_]; done) | (simp [-List.reduceReplicate, sOf_set, ofI_set, allU8_set, h1, h2l, h2m, h2n, h3, h3_]; omega))
    refine AW.wk [(0, AV.lst false false (List.map (AV.int .u32) v0)), (2, AV.lst false false (List.map (AV.int .u32) v2)), (7, AV.slc 0 0 1 v6.length true), (9, AV.int .i64 16)] [(0, .cells (List.map (AV.int .u32) v6))] 1 (by simp [-List.reduceReplicate, sOf_set, ofI_set, allU8_set, h1, h2l, h2m, h2n, h3, h3_]) (by simp [-List.reduceReplicate, sOf_set, ofI_set, allU8_set, h1, h2l, h2m, h2n, h3, h3_]) (by simp) ?_
    refine AW.block ?_
    refine AW.loopF (α := (Int × (List Int))) (fun n (v11, v12) => ref01_block.L2 k v0 v2 n v11 v12 = some v3) (fun (v11, v12) => [(0, AV.lst false false (List.map (AV.int .u32) v0)), (2, AV.lst false false (List.map (AV.int .u32) v2)), (7, AV.slc 0 0 1 v12.length true), (9, AV.int .i64 v11)]) (fun (v11, v12) => [(0, .cells (List.map (AV.int .u32) v12))]) 1 k ((16, v6)) hF (by simp [-List.reduceReplicate, sOf_set, ofI_set, allU8_set, h1, h2l, h2m, h2n, h3, h3_]) (by simp [-List.reduceReplicate, sOf_set, ofI_set, allU8_set, h1, h2l, h2m, h2n, h3, h3_]) (by simp) ?_
    rintro (_|n2) ⟨v11, v12⟩ hF K505 hK505
    · try dsimp only at hF
      rw [ref01_block.L2] at hF; cases hF
    try dsimp only at hF
    rw [ref01_block.L2] at hF
    refine AW.seq fun K507 hK507 => ?_
    refine AW.seqR mixed [] [none, none] (by kernel_rfl) fun G508 R508 hG508 hR508 => ?_
    try simp [-List.reduceReplicate, sOf_set, ofI_set, allU8_set, h1, h2l, h2m, h2n, h3, h3_]
    repeat' apply And.intro
    any_goals (first | exact hG508 _ (by kernel_rfl) | refine hR508 _ _ _ ?_ | omega | (unfold maxLen; omega) | (simp [-List.reduceReplicate, sOf_set, ofI_set, allU8_set, h1, h2l, h2m, h2n, h3, h3_]; done) | (simp [-List.reduceReplicate, sOf_set, ofI_set, allU8_set, h1, h2l, h2m, h2n, h3, h3_]; omega))
    refine AW.wk [(0, AV.lst false false (List.map (AV.int .u32) v0)), (2, AV.lst false false (List.map (AV.int .u32) v2)), (7, AV.slc 0 0 1 v12.length true), (9, AV.int .i64 v11), (61, AV.bool (decide (v11 < 64)))] [(0, .cells (List.map (AV.int .u32) v12))] 1 (by simp [-List.reduceReplicate, sOf_set, ofI_set, allU8_set, h1, h2l, h2m, h2n, h3, h3_]) (by simp [-List.reduceReplicate, sOf_set, ofI_set, allU8_set, h1, h2l, h2m, h2n, h3, h3_]) (by simp) ?_
    by_cases h18 : v11 < 64
    · replace hF := ite_t h18 hF
      have h18_ := h18
      try simp at h18_
      refine AW.condT (by decide) (by first | (simp [-List.reduceReplicate, sOf_set, ofI_set, allU8_set, h1, h2l, h2m, h2n, h3, h3_, h18, h18_]; done) | (simp [-List.reduceReplicate, sOf_set, ofI_set, allU8_set, h1, h2l, h2m, h2n, h3, h3_, h18, h18_]; omega)) ?_
      refine AW.skip ?_
      refine hK507 _ _ _ ?_
      refine AW.seq fun K512 hK512 => ?_
      refine AW.block ?_
      refine AW.seqR mixed [] [none, none, none, none, none, none, none, none, none, none, none, none, none, none, none, none, none, none, none, none, none] (by kernel_rfl) fun G513 R513 hG513 hR513 => ?_
      obtain ⟨⟨h19, h20⟩, hF⟩ := chk_elim hF
      have h20_ := ne_of_lt h20
      obtain ⟨v13, h21, h22, h23, hF⟩ := idx_elim hF
      have h23_ := get_of h23
      try simp at h23_
      have h22_ := h22
      try simp at h22_
      try simp [-List.reduceReplicate, sOf_set, ofI_set, allU8_set, h1, h2l, h2m, h2n, h3, h3_, h18, h18_, h19, h20, h20_, h21, h22, h23, h23_, h22_]
      repeat' apply And.intro
      try any_goals (first | omega | (unfold maxLen; omega) | (simp [-List.reduceReplicate, sOf_set, ofI_set, allU8_set, h1, h2l, h2m, h2n, h3, h3_, h18, h18_, h19, h20, h20_, h21, h22, h23, h23_, h22_]; done))
      obtain ⟨v14, h24, hF⟩ := bnd1_elim hF
      refine aCall_l (w_ref01_turn k _ _ _ h24) (by simp) [] [] [] rfl (.cons (.same (by simp [-List.reduceReplicate, sOf_set, ofI_set, allU8_set, h1, h2l, h2m, h2n, h3, h3_, h18, h18_, h19, h20, h20_, h21, h22, h23, h23_, h22_])) (.cons (.same (by simp [-List.reduceReplicate, sOf_set, ofI_set, allU8_set, h1, h2l, h2m, h2n, h3, h3_, h18, h18_, h19, h20, h20_, h21, h22, h23, h23_, h22_])) .nil)) (by simp [-List.reduceReplicate, sOf_set, ofI_set, allU8_set, h1, h2l, h2m, h2n, h3, h3_, h18, h18_, h19, h20, h20_, h21, h22, h23, h23_, h22_]) (by decide) (by simp) (by simp) (.inl rfl) (by simp) (by simp) ?_
      obtain ⟨⟨h25, h26⟩, hF⟩ := chk_elim hF
      have h26_ := ne_of_lt h26
      try simp [-List.reduceReplicate, sOf_set, ofI_set, allU8_set, h1, h2l, h2m, h2n, h3, h3_, h18, h18_, h19, h20, h20_, h21, h22, h23, h23_, h22_, h25, h26, h26_]
      repeat' apply And.intro
      try any_goals (first | omega | (unfold maxLen; omega) | (simp [-List.reduceReplicate, sOf_set, ofI_set, allU8_set, h1, h2l, h2m, h2n, h3, h3_, h18, h18_, h19, h20, h20_, h21, h22, h23, h23_, h22_, h25, h26, h26_]; done))
      obtain ⟨v15, h27, hF⟩ := bnd1_elim hF
      refine aCall_l (w_ref01_turn k _ _ _ h27) (by simp) [] [] [] rfl (.cons (.same (by simp [-List.reduceReplicate, sOf_set, ofI_set, allU8_set, h1, h2l, h2m, h2n, h3, h3_, h18, h18_, h19, h20, h20_, h21, h22, h23, h23_, h22_, h25, h26, h26_])) (.cons (.same (by simp [-List.reduceReplicate, sOf_set, ofI_set, allU8_set, h1, h2l, h2m, h2n, h3, h3_, h18, h18_, h19, h20, h20_, h21, h22, h23, h23_, h22_, h25, h26, h26_])) .nil)) (by simp [-List.reduceReplicate, sOf_set, ofI_set, allU8_set, h1, h2l, h2m, h2n, h3, h3_, h18, h18_, h19, h20, h20_, h21, h22, h23, h23_, h22_, h25, h26, h26_]) (by decide) (by simp) (by simp) (.inl rfl) (by simp) (by simp) ?_
      obtain ⟨⟨h28, h29⟩, hF⟩ := chk_elim hF
      have h29_ := ne_of_lt h29
      try simp [-List.reduceReplicate, sOf_set, ofI_set, allU8_set, h1, h2l, h2m, h2n, h3, h3_, h18, h18_, h19, h20, h20_, h21, h22, h23, h23_, h22_, h25, h26, h26_, h28, h29, h29_]
      repeat' apply And.intro
      any_goals (first | exact hG513 _ (by kernel_rfl) | refine hR513 _ _ _ ?_ | omega | (unfold maxLen; omega) | (simp [-List.reduceReplicate, sOf_set, ofI_set, allU8_set, h1, h2l, h2m, h2n, h3, h3_, h18, h18_, h19, h20, h20_, h21, h22, h23, h23_, h22_, h25, h26, h26_, h28, h29, h29_]; done) | (simp [-List.reduceReplicate, sOf_set, ofI_set, allU8_set, h1, h2l, h2m, h2n, h3, h3_, h18, h18_, h19, h20, h20_, h21, h22, h23, h23_, h22_, h25, h26, h26_, h28, h29, h29_]; omega))
      refine AW.wk [(0, AV.lst false false (List.map (AV.int .u32) v0)), (2, AV.lst false false (List.map (AV.int .u32) v2)), (7, AV.slc 0 0 1 v12.length true), (9, AV.int .i64 v11), (10, AV.int .u32 (bitsV .xor .u32 (bitsV .xor .u32 v14 v15) (Int.fdiv v13 (2 ^ (3)))))] [(0, .cells (List.map (AV.int .u32) v12))] 1 (by simp [-List.reduceReplicate, sOf_set, ofI_set, allU8_set, h1, h2l, h2m, h2n, h3, h3_, h18, h18_, h19, h20, h20_, h21, h22, h23, h23_, h22_, h25, h26, h26_, h28, h29, h29_]) (by simp [-List.reduceReplicate, sOf_set, ofI_set, allU8_set, h1, h2l, h2m, h2n, h3, h3_, h18, h18_, h19, h20, h20_, h21, h22, h23, h23_, h22_, h25, h26, h26_, h28, h29, h29_]) (by simp) ?_
      refine AW.seqR mixed [] [none, none, none, none, none, none, none, none, none, none, none, none, none, none, none, none, none, none, none, none, none] (by kernel_rfl) fun G514 R514 hG514 hR514 => ?_
      obtain ⟨⟨h30, h31⟩, hF⟩ := chk_elim hF
      have h31_ := ne_of_lt h31
      obtain ⟨v16, h32, h33, h34, hF⟩ := idx_elim hF
      have h34_ := get_of h34
      try simp at h34_
      have h33_ := h33
      try simp at h33_
      try simp [-List.reduceReplicate, sOf_set, ofI_set, allU8_set, h1, h2l, h2m, h2n, h3, h3_, h18, h18_, h19, h20, h20_, h21, h22, h23, h23_, h22_, h25, h26, h26_, h28, h29, h29_, h30, h31, h31_, h32, h33, h34, h34_, h33_]
      repeat' apply And.intro
      try any_goals (first | omega | (unfold maxLen; omega) | (simp [-List.reduceReplicate, sOf_set, ofI_set, allU8_set, h1, h2l, h2m, h2n, h3, h3_, h18, h18_, h19, h20, h20_, h21, h22, h23, h23_, h22_, h25, h26, h26_, h28, h29, h29_, h30, h31, h31_, h32, h33, h34, h34_, h33_]; done))
      obtain ⟨v17, h35, hF⟩ := bnd1_elim hF
      refine aCall_l (w_ref01_turn k _ _ _ h35) (by simp) [] [] [] rfl (.cons (.same (by simp [-List.reduceReplicate, sOf_set, ofI_set, allU8_set, h1, h2l, h2m, h2n, h3, h3_, h18, h18_, h19, h20, h20_, h21, h22, h23, h23_, h22_, h25, h26, h26_, h28, h29, h29_, h30, h31, h31_, h32, h33, h34, h34_, h33_])) (.cons (.same (by simp [-List.reduceReplicate, sOf_set, ofI_set, allU8_set, h1, h2l, h2m, h2n, h3, h3_, h18, h18_, h19, h20, h20_, h21, h22, h23, h23_, h22_, h25, h26, h26_, h28, h29, h29_, h30, h31, h31_, h32, h33, h34, h34_, h33_])) .nil)) (by simp [-List.reduceReplicate, sOf_set, ofI_set, allU8_set, h1, h2l, h2m, h2n, h3, h3_, h18, h18_, h19, h20, h20_, h21, h22, h23, h23_, h22_, h25, h26, h26_, h28, h29, h29_, h30, h31, h31_, h32, h33, h34, h34_, h33_]) (by decide) (by simp) (by simp) (.inl rfl) (by simp) (by simp) ?_
      obtain ⟨⟨h36, h37⟩, hF⟩ := chk_elim hF
      have h37_ := ne_of_lt h37
      try simp [-List.reduceReplicate, sOf_set, ofI_set, allU8_set, h1, h2l, h2m, h2n, h3, h3_, h18, h18_, h19, h20, h20_, h21, h22, h23, h23_, h22_, h25, h26, h26_, h28, h29, h29_, h30, h31, h31_, h32, h33, h34, h34_, h33_, h36, h37, h37_]
      repeat' apply And.intro
      try any_goals (first | omega | (unfold maxLen; omega) | (simp [-List.reduceReplicate, sOf_set, ofI_set, allU8_set, h1, h2l, h2m, h2n, h3, h3_, h18, h18_, h19, h20, h20_, h21, h22, h23, h23_, h22_, h25, h26, h26_, h28, h29, h29_, h30, h31, h31_, h32, h33, h34, h34_, h33_, h36, h37, h37_]; done))
      obtain ⟨v18, h38, hF⟩ := bnd1_elim hF
      refine aCall_l (w_ref01_turn k _ _ _ h38) (by simp) [] [] [] rfl (.cons (.same (by simp [-List.reduceReplicate, sOf_set, ofI_set, allU8_set, h1, h2l, h2m, h2n, h3, h3_, h18, h18_, h19, h20, h20_, h21, h22, h23, h23_, h22_, h25, h26, h26_, h28, h29, h29_, h30, h31, h31_, h32, h33, h34, h34_, h33_, h36, h37, h37_])) (.cons (.same (by simp [-List.reduceReplicate, sOf_set, ofI_set, allU8_set, h1, h2l, h2m, h2n, h3, h3_, h18, h18_, h19, h20, h20_, h21, h22, h23, h23_, h22_, h25, h26, h26_, h28, h29, h29_, h30, h31, h31_, h32, h33, h34, h34_, h33_, h36, h37, h37_])) .nil)) (by simp [-List.reduceReplicate, sOf_set, ofI_set, allU8_set, h1, h2l, h2m, h2n, h3, h3_, h18, h18_, h19, h20, h20_, h21, h22, h23, h23_, h22_, h25, h26, h26_, h28, h29, h29_, h30, h31, h31_, h32, h33, h34, h34_, h33_, h36, h37, h37_]) (by decide) (by simp) (by simp) (.inl rfl) (by simp) (by simp) ?_
      obtain ⟨⟨h39, h40⟩, hF⟩ := chk_elim hF
      have h40_ := ne_of_lt h40
      try simp [-List.reduceReplicate, sOf_set, ofI_set, allU8_set, h1, h2l, h2m, h2n, h3, h3_, h18, h18_, h19, h20, h20_, h21, h22, h23, h23_, h22_, h25, h26, h26_, h28, h29, h29_, h30, h31, h31_, h32, h33, h34, h34_, h33_, h36, h37, h37_, h39, h40, h40_]
      repeat' apply And.intro
      any_goals (first | exact hG514 _ (by kernel_rfl) | refine hR514 _ _ _ ?_ | omega | (unfold maxLen; omega) | (simp [-List.reduceReplicate, sOf_set, ofI_set, allU8_set, h1, h2l, h2m, h2n, h3, h3_, h18, h18_, h19, h20, h20_, h21, h22, h23, h23_, h22_, h25, h26, h26_, h28, h29, h29_, h30, h31, h31_, h32, h33, h34, h34_, h33_, h36, h37, h37_, h39, h40, h40_]; done) | (simp [-List.reduceReplicate, sOf_set, ofI_set, allU8_set, h1, h2l, h2m, h2n, h3, h3_, h18, h18_, h19, h20, h20_, h21, h22, h23, h23_, h22_, h25, h26, h26_, h28, h29, h29_, h30, h31, h31_, h32, h33, h34, h34_, h33_, h36, h37, h37_, h39, h40, h40_]; omega))
      refine AW.wk [(0, AV.lst false false (List.map (AV.int .u32) v0)), (2, AV.lst false false (List.map (AV.int .u32) v2)), (7, AV.slc 0 0 1 v12.length true), (9, AV.int .i64 v11), (10, AV.int .u32 (bitsV .xor .u32 (bitsV .xor .u32 v14 v15) (Int.fdiv v13 (2 ^ (3))))), (11, AV.int .u32 (bitsV .xor .u32 (bitsV .xor .u32 v17 v18) (Int.fdiv v16 (2 ^ (10)))))] [(0, .cells (List.map (AV.int .u32) v12))] 1 (by simp [-List.reduceReplicate, sOf_set, ofI_set, allU8_set, h1, h2l, h2m, h2n, h3, h3_, h18, h18_, h19, h20, h20_, h21, h22, h23, h23_, h22_, h25, h26, h26_, h28, h29, h29_, h30, h31, h31_, h32, h33, h34, h34_, h33_, h36, h37, h37_, h39, h40, h40_]) (by simp [-List.reduceReplicate, sOf_set, ofI_set, allU8_set, h1, h2l, h2m, h2n, h3, h3_, h18, h18_, h19, h20, h20_, h21, h22, h23, h23_, h22_, h25, h26, h26_, h28, h29, h29_, h30, h31, h31_, h32, h33, h34, h34_, h33_, h36, h37, h37_, h39, h40, h40_]) (by simp) ?_
      refine AW.region mixed [] [none, none, none, none, none, none, none, none, none, none, none, none, none, none, none, none, none, none, none] (by kernel_rfl) fun G515 R515 hG515 hR515 => ?_
      obtain ⟨⟨h41, h42⟩, hF⟩ := chk_elim hF
      have h42_ := ne_of_lt h42
      obtain ⟨v19, h43, h44, h45, hF⟩ := idx_elim hF
      have h45_ := get_of h45
      try simp at h45_
      have h44_ := h44
      try simp at h44_
      obtain ⟨⟨h46, h47⟩, hF⟩ := chk_elim hF
      have h47_ := ne_of_lt h47
      obtain ⟨v20, h48, h49, h50, hF⟩ := idx_elim hF
      have h50_ := get_of h50
      try simp at h50_
      have h49_ := h49
      try simp at h49_
      obtain ⟨⟨h51, h52⟩, hF⟩ := chk_elim hF
      have h52_ := ne_of_lt h52
      try simp [-List.reduceReplicate, sOf_set, ofI_set, allU8_set, h1, h2l, h2m, h2n, h3, h3_, h18, h18_, h19, h20, h20_, h21, h22, h23, h23_, h22_, h25, h26, h26_, h28, h29, h29_, h30, h31, h31_, h32, h33, h34, h34_, h33_, h36, h37, h37_, h39, h40, h40_, h41, h42, h42_, h43, h44, h45, h45_, h44_, h46, h47, h47_, h48, h49, h50, h50_, h49_, h51, h52, h52_]
      repeat' apply And.intro
      any_goals (first | exact hG515 _ (by kernel_rfl) | refine hR515 _ _ _ ?_ | omega | (unfold maxLen; omega) | (simp [-List.reduceReplicate, sOf_set, ofI_set, allU8_set, h1, h2l, h2m, h2n, h3, h3_, h18, h18_, h19, h20, h20_, h21, h22, h23, h23_, h22_, h25, h26, h26_, h28, h29, h29_, h30, h31, h31_, h32, h33, h34, h34_, h33_, h36, h37, h37_, h39, h40, h40_, h41, h42, h42_, h43, h44, h45, h45_, h44_, h46, h47, h47_, h48, h49, h50, h50_, h49_, h51, h52, h52_]; done) | (simp [-List.reduceReplicate, sOf_set, ofI_set, allU8_set, h1, h2l, h2m, h2n, h3, h3_, h18, h18_, h19, h20, h20_, h21, h22, h23, h23_, h22_, h25, h26, h26_, h28, h29, h29_, h30, h31, h31_, h32, h33, h34, h34_, h33_, h36, h37, h37_, h39, h40, h40_, h41, h42, h42_, h43, h44, h45, h45_, h44_, h46, h47, h47_, h48, h49, h50, h50_, h49_, h51, h52, h52_]; omega))
      refine hK512 _ _ _ ?_
      refine AW.wk [(0, AV.lst false false (List.map (AV.int .u32) v0)), (2, AV.lst false false (List.map (AV.int .u32) v2)), (7, AV.slc 0 0 1 ((v12.set (v11).toNat (IntKind.wrap .u32 (IntKind.wrap .u32 (IntKind.wrap .u32 (v19 + bitsV .xor .u32 (bitsV .xor .u32 v14 v15) (Int.fdiv v13 (2 ^ (3)))) + v20) + bitsV .xor .u32 (bitsV .xor .u32 v17 v18) (Int.fdiv v16 (2 ^ (10)))))).length) true), (9, AV.int .i64 v11)] [(0, .cells (List.map (AV.int .u32) (v12.set (v11).toNat (IntKind.wrap .u32 (IntKind.wrap .u32 (IntKind.wrap .u32 (v19 + bitsV .xor .u32 (bitsV .xor .u32 v14 v15) (Int.fdiv v13 (2 ^ (3)))) + v20) + bitsV .xor .u32 (bitsV .xor .u32 v17 v18) (Int.fdiv v16 (2 ^ (10))))))))] 1 (by simp [-List.reduceReplicate, sOf_set, ofI_set, allU8_set, h1, h2l, h2m, h2n, h3, h3_, h18, h18_, h19, h20, h20_, h21, h22, h23, h23_, h22_, h25, h26, h26_, h28, h29, h29_, h30, h31, h31_, h32, h33, h34, h34_, h33_, h36, h37, h37_, h39, h40, h40_, h41, h42, h42_, h43, h44, h45, h45_, h44_, h46, h47, h47_, h48, h49, h50, h50_, h49_, h51, h52, h52_]) (by simp [-List.reduceReplicate, sOf_set, ofI_set, allU8_set, h1, h2l, h2m, h2n, h3, h3_, h18, h18_, h19, h20, h20_, h21, h22, h23, h23_, h22_, h25, h26, h26_, h28, h29, h29_, h30, h31, h31_, h32, h33, h34, h34_, h33_, h36, h37, h37_, h39, h40, h40_, h41, h42, h42_, h43, h44, h45, h45_, h44_, h46, h47, h47_, h48, h49, h50, h50_, h49_, h51, h52, h52_]) (by simp) ?_
      refine AW.region mixed [] [none, none, none] (by kernel_rfl) fun G516 R516 hG516 hR516 => ?_
      try simp [-List.reduceReplicate, sOf_set, ofI_set, allU8_set, h1, h2l, h2m, h2n, h3, h3_, h18, h18_, h19, h20, h20_, h21, h22, h23, h23_, h22_, h25, h26, h26_, h28, h29, h29_, h30, h31, h31_, h32, h33, h34, h34_, h33_, h36, h37, h37_, h39, h40, h40_, h41, h42, h42_, h43, h44, h45, h45_, h44_, h46, h47, h47_, h48, h49, h50, h50_, h49_, h51, h52, h52_]
      repeat' apply And.intro
      any_goals (first | exact hG516 _ (by kernel_rfl) | refine hR516 _ _ _ ?_ | omega | (unfold maxLen; omega) | (simp [-List.reduceReplicate, sOf_set, ofI_set, allU8_set, h1, h2l, h2m, h2n, h3, h3_, h18, h18_, h19, h20, h20_, h21, h22, h23, h23_, h22_, h25, h26, h26_, h28, h29, h29_, h30, h31, h31_, h32, h33, h34, h34_, h33_, h36, h37, h37_, h39, h40, h40_, h41, h42, h42_, h43, h44, h45, h45_, h44_, h46, h47, h47_, h48, h49, h50, h50_, h49_, h51, h52, h52_]; done) | (simp [-List.reduceReplicate, sOf_set, ofI_set, allU8_set, h1, h2l, h2m, h2n, h3, h3_, h18, h18_, h19, h20, h20_, h21, h22, h23, h23_, h22_, h25, h26, h26_, h28, h29, h29_, h30, h31, h31_, h32, h33, h34, h34_, h33_, h36, h37, h37_, h39, h40, h40_, h41, h42, h42_, h43, h44, h45, h45_, h44_, h46, h47, h47_, h48, h49, h50, h50_, h49_, h51, h52, h52_]; omega))
      refine hK505 _ _ _ ?_
      refine Can.weak [(0, AV.lst false false (List.map (AV.int .u32) v0)), (2, AV.lst false false (List.map (AV.int .u32) v2)), (7, AV.slc 0 0 1 ((v12.set (v11).toNat (IntKind.wrap .u32 (IntKind.wrap .u32 (IntKind.wrap .u32 (v19 + bitsV .xor .u32 (bitsV .xor .u32 v14 v15) (Int.fdiv v13 (2 ^ (3)))) + v20) + bitsV .xor .u32 (bitsV .xor .u32 v17 v18) (Int.fdiv v16 (2 ^ (10)))))).length) true), (9, AV.int .i64 (IntKind.wrap .i64 (v11 + 1)))] [(0, .cells (List.map (AV.int .u32) (v12.set (v11).toNat (IntKind.wrap .u32 (IntKind.wrap .u32 (IntKind.wrap .u32 (v19 + bitsV .xor .u32 (bitsV .xor .u32 v14 v15) (Int.fdiv v13 (2 ^ (3)))) + v20) + bitsV .xor .u32 (bitsV .xor .u32 v17 v18) (Int.fdiv v16 (2 ^ (10))))))))] 1 (by simp [-List.reduceReplicate, sOf_set, ofI_set, allU8_set, h1, h2l, h2m, h2n, h3, h3_, h18, h18_, h19, h20, h20_, h21, h22, h23, h23_, h22_, h25, h26, h26_, h28, h29, h29_, h30, h31, h31_, h32, h33, h34, h34_, h33_, h36, h37, h37_, h39, h40, h40_, h41, h42, h42_, h43, h44, h45, h45_, h44_, h46, h47, h47_, h48, h49, h50, h50_, h49_, h51, h52, h52_]) (by simp [-List.reduceReplicate, sOf_set, ofI_set, allU8_set, h1, h2l, h2m, h2n, h3, h3_, h18, h18_, h19, h20, h20_, h21, h22, h23, h23_, h22_, h25, h26, h26_, h28, h29, h29_, h30, h31, h31_, h32, h33, h34, h34_, h33_, h36, h37, h37_, h39, h40, h40_, h41, h42, h42_, h43, h44, h45, h45_, h44_, h46, h47, h47_, h48, h49, h50, h50_, h49_, h51, h52, h52_]) (by simp) ?_
      exact Can.next (k' := n2) ((IntKind.wrap .i64 (v11 + 1), v12.set (v11).toNat (IntKind.wrap .u32 (IntKind.wrap .u32 (IntKind.wrap .u32 (v19 + bitsV .xor .u32 (bitsV .xor .u32 v14 v15) (Int.fdiv v13 (2 ^ (3)))) + v20) + bitsV .xor .u32 (bitsV .xor .u32 v17 v18) (Int.fdiv v16 (2 ^ (10))))))) (by omega) hF (by simp [-List.reduceReplicate, sOf_set, ofI_set, allU8_set, h1, h2l, h2m, h2n, h3, h3_, h18, h18_, h19, h20, h20_, h21, h22, h23, h23_, h22_, h25, h26, h26_, h28, h29, h29_, h30, h31, h31_, h32, h33, h34, h34_, h33_, h36, h37, h37_, h39, h40, h40_, h41, h42, h42_, h43, h44, h45, h45_, h44_, h46, h47, h47_, h48, h49, h50, h50_, h49_, h51, h52, h52_]) (by simp [-List.reduceReplicate, sOf_set, ofI_set, allU8_set, h1, h2l, h2m, h2n, h3, h3_, h18, h18_, h19, h20, h20_, h21, h22, h23, h23_, h22_, h25, h26, h26_, h28, h29, h29_, h30, h31, h31_, h32, h33, h34, h34_, h33_, h36, h37, h37_, h39, h40, h40_, h41, h42, h42_, h43, h44, h45, h45_, h44_, h46, h47, h47_, h48, h49, h50, h50_, h49_, h51, h52, h52_]) (by simp)
    · replace hF := ite_f h18 hF
      have h18_ := h18
      try simp at h18_
      refine AW.condF (by decide) (by first | (simp [-List.reduceReplicate, sOf_set, ofI_set, allU8_set, h1, h2l, h2m, h2n, h3, h3_, h18, h18_]; done) | (simp [-List.reduceReplicate, sOf_set, ofI_set, allU8_set, h1, h2l, h2m, h2n, h3, h3_, h18, h18_]; omega)) ?_
      refine AW.exit ?_
      try simp
      refine hK470 _ _ _ ?_
      refine AW.wk [(0, AV.lst false false (List.map (AV.int .u32) v0)), (2, AV.lst false false (List.map (AV.int .u32) v2)), (7, AV.slc 0 0 1 v12.length true)] [(0, .cells (List.map (AV.int .u32) v12))] 1 (by simp [-List.reduceReplicate, sOf_set, ofI_set, allU8_set, h1, h2l, h2m, h2n, h3, h3_, h18, h18_]) (by simp [-List.reduceReplicate, sOf_set, ofI_set, allU8_set, h1, h2l, h2m, h2n, h3, h3_, h18, h18_]) (by simp) ?_
      refine AW.frz 0 (o := .cells (List.map (AV.int .u32) v12)) (by simp [-List.reduceReplicate, sOf_set, ofI_set, allU8_set, h1, h2l, h2m, h2n, h3, h3_, h18, h18_]) rfl [(7, AV.lst false true (List.map (AV.int .u32) v12))] [] ⟨(.l (by simp) (by simp) (by simp) (by simp)), trivial⟩ trivial ?_
      refine AW.wk [(0, AV.lst false false (List.map (AV.int .u32) v0)), (2, AV.lst false false (List.map (AV.int .u32) v2)), (7, AV.lst false true (List.map (AV.int .u32) v12))] [] 1 (by simp [-List.reduceReplicate, sOf_set, ofI_set, allU8_set, h1, h2l, h2m, h2n, h3, h3_, h18, h18_]) (by simp [-List.reduceReplicate, sOf_set, ofI_set, allU8_set, h1, h2l, h2m, h2n, h3, h3_, h18, h18_]) (by simp) ?_
      refine AW.seqR mixed [123] [none, none, none] (by kernel_rfl) fun G517 R517 hG517 hR517 => ?_
      obtain ⟨h53, hF⟩ := chk_elim hF
      have h53_ := h53
      try simp at h53_
      try simp [-List.reduceReplicate, sOf_set, ofI_set, allU8_set, h1, h2l, h2m, h2n, h3, h3_, h18, h18_, h53]
      repeat' apply And.intro
      any_goals (first | exact hG517 _ (by kernel_rfl) | refine hR517 _ _ _ ?_ | omega | (unfold maxLen; omega) | (simp [-List.reduceReplicate, sOf_set, ofI_set, allU8_set, h1, h2l, h2m, h2n, h3, h3_, h18, h18_, h53]; done) | (simp [-List.reduceReplicate, sOf_set, ofI_set, allU8_set, h1, h2l, h2m, h2n, h3, h3_, h18, h18_, h53]; omega))
      refine AW.wk [(0, AV.lst false false (List.map (AV.int .u32) v0)), (2, AV.lst false false (List.map (AV.int .u32) v2)), (7, AV.lst false true (List.map (AV.int .u32) v12)), (12, AV.slc 1 0 1 v0.length false)] [(1, .grow (List.map (AV.int .u32) v0))] 2 (by simp [-List.reduceReplicate, sOf_set, ofI_set, allU8_set, h1, h2l, h2m, h2n, h3, h3_, h18, h18_, h53]) (by simp [-List.reduceReplicate, sOf_set, ofI_set, allU8_set, h1, h2l, h2m, h2n, h3, h3_, h18, h18_, h53]) (by simp) ?_
      refine AW.seq fun K588 hK588 => ?_
      refine AW.seqR mixed [] [none] (by kernel_rfl) fun G589 R589 hG589 hR589 => ?_
      try simp [-List.reduceReplicate, sOf_set, ofI_set, allU8_set, h1, h2l, h2m, h2n, h3, h3_, h18, h18_, h53]
      repeat' apply And.intro
      any_goals (first | exact hG589 _ (by kernel_rfl) | refine hR589 _ _ _ ?_ | omega | (unfold maxLen; omega) | (simp [-List.reduceReplicate, sOf_set, ofI_set, allU8_set, h1, h2l, h2m, h2n, h3, h3_, h18, h18_, h53]; done) | (simp [-List.reduceReplicate, sOf_set, ofI_set, allU8_set, h1, h2l, h2m, h2n, h3, h3_, h18, h18_, h53]; omega))
      refine AW.wk [(0, AV.lst false false (List.map (AV.int .u32) v0)), (2, AV.lst false false (List.map (AV.int .u32) v2)), (7, AV.lst false true (List.map (AV.int .u32) v12)), (12, AV.slc 1 0 1 v0.length false), (13, AV.int .i64 0)] [(1, .grow (List.map (AV.int .u32) v0))] 2 (by simp [-List.reduceReplicate, sOf_set, ofI_set, allU8_set, h1, h2l, h2m, h2n, h3, h3_, h18, h18_, h53]) (by simp [-List.reduceReplicate, sOf_set, ofI_set, allU8_set, h1, h2l, h2m, h2n, h3, h3_, h18, h18_, h53]) (by simp) ?_
      refine AW.block ?_
      refine AW.rnm (m := 0) h0 [(0, 1)] [(0, AV.lst false false (List.map (AV.int .u32) v0)), (2, AV.lst false false (List.map (AV.int .u32) v2)), (7, AV.lst false true (List.map (AV.int .u32) v12)), (12, AV.slc 0 0 1 v0.length false), (13, AV.int .i64 0)] [(0, .grow (List.map (AV.int .u32) v0))] 1 (by decide) (by decide) (by decide) rfl (by simp [-List.reduceReplicate, sOf_set, ofI_set, allU8_set, h1, h2l, h2m, h2n, h3, h3_, h18, h18_, h53]) (by simp [-List.reduceReplicate, sOf_set, ofI_set, allU8_set, h1, h2l, h2m, h2n, h3, h3_, h18, h18_, h53]) ?_
      refine AW.loopF (α := (Int × (List Int))) (fun n (v21, v22) => ref01_block.L3 k v0 v2 v12 n v21 v22 = some v3) (fun (v21, v22) => [(0, AV.lst false false (List.map (AV.int .u32) v0)), (2, AV.lst false false (List.map (AV.int .u32) v2)), (7, AV.lst false true (List.map (AV.int .u32) v12)), (12, AV.slc 0 0 1 v22.length false), (13, AV.int .i64 v21)]) (fun (v21, v22) => [(0, .grow (List.map (AV.int .u32) v22))]) 1 k ((0, v0)) hF (by simp [-List.reduceReplicate, sOf_set, ofI_set, allU8_set, h1, h2l, h2m, h2n, h3, h3_, h18, h18_, h53]) (by simp [-List.reduceReplicate, sOf_set, ofI_set, allU8_set, h1, h2l, h2m, h2n, h3, h3_, h18, h18_, h53]) (by simp) ?_
      rintro (_|n3) ⟨v21, v22⟩ hF K641 hK641
      · try dsimp only at hF
        rw [ref01_block.L3] at hF; cases hF
      try dsimp only at hF
      rw [ref01_block.L3] at hF
      refine AW.seq fun K643 hK643 => ?_
      refine AW.seqR mixed [] [none, none] (by kernel_rfl) fun G644 R644 hG644 hR644 => ?_
      try simp [-List.reduceReplicate, sOf_set, ofI_set, allU8_set, h1, h2l, h2m, h2n, h3, h3_, h18, h18_, h53]
      repeat' apply And.intro
      any_goals (first | exact hG644 _ (by kernel_rfl) | refine hR644 _ _ _ ?_ | omega | (unfold maxLen; omega) | (simp [-List.reduceReplicate, sOf_set, ofI_set, allU8_set, h1, h2l, h2m, h2n, h3, h3_, h18, h18_, h53]; done) | (simp [-List.reduceReplicate, sOf_set, ofI_set, allU8_set, h1, h2l, h2m, h2n, h3, h3_, h18, h18_, h53]; omega))
      refine AW.wk [(0, AV.lst false false (List.map (AV.int .u32) v0)), (2, AV.lst false false (List.map (AV.int .u32) v2)), (7, AV.lst false true (List.map (AV.int .u32) v12)), (12, AV.slc 0 0 1 v22.length false), (13, AV.int .i64 v21), (125, AV.bool (decide (v21 < 64)))] [(0, .grow (List.map (AV.int .u32) v22))] 1 (by simp [-List.reduceReplicate, sOf_set, ofI_set, allU8_set, h1, h2l, h2m, h2n, h3, h3_, h18, h18_, h53]) (by simp [-List.reduceReplicate, sOf_set, ofI_set, allU8_set, h1, h2l, h2m, h2n, h3, h3_, h18, h18_, h53]) (by simp) ?_
      by_cases h54 : v21 < 64
      · replace hF := ite_t h54 hF
        have h54_ := h54
        try simp at h54_
        refine AW.condT (by decide) (by first | (simp [-List.reduceReplicate, sOf_set, ofI_set, allU8_set, h1, h2l, h2m, h2n, h3, h3_, h18, h18_, h53, h54, h54_]; done) | (simp [-List.reduceReplicate, sOf_set, ofI_set, allU8_set, h1, h2l, h2m, h2n, h3, h3_, h18, h18_, h53, h54, h54_]; omega)) ?_
        refine AW.skip ?_
        refine hK643 _ _ _ ?_
        refine AW.wk [(0, AV.lst false false (List.map (AV.int .u32) v0)), (2, AV.lst false false (List.map (AV.int .u32) v2)), (7, AV.lst false true (List.map (AV.int .u32) v12)), (12, AV.slc 0 0 1 v22.length false), (13, AV.int .i64 v21)] [(0, .grow (List.map (AV.int .u32) v22))] 1 (by simp [-List.reduceReplicate, sOf_set, ofI_set, allU8_set, h1, h2l, h2m, h2n, h3, h3_, h18, h18_, h53, h54, h54_]) (by simp [-List.reduceReplicate, sOf_set, ofI_set, allU8_set, h1, h2l, h2m, h2n, h3, h3_, h18, h18_, h53, h54, h54_]) (by simp) ?_
        refine AW.frz 0 (o := .grow (List.map (AV.int .u32) v22)) (by simp [-List.reduceReplicate, sOf_set, ofI_set, allU8_set, h1, h2l, h2m, h2n, h3, h3_, h18, h18_, h53, h54, h54_]) rfl [(12, AV.lst false false (List.map (AV.int .u32) v22))] [] ⟨(.l (by simp) (by simp) (by simp) (by simp)), trivial⟩ trivial ?_
        refine AW.wk [(0, AV.lst false false (List.map (AV.int .u32) v0)), (2, AV.lst false false (List.map (AV.int .u32) v2)), (7, AV.lst false true (List.map (AV.int .u32) v12)), (12, AV.lst false false (List.map (AV.int .u32) v22)), (13, AV.int .i64 v21)] [] 1 (by simp [-List.reduceReplicate, sOf_set, ofI_set, allU8_set, h1, h2l, h2m, h2n, h3, h3_, h18, h18_, h53, h54, h54_]) (by simp [-List.reduceReplicate, sOf_set, ofI_set, allU8_set, h1, h2l, h2m, h2n, h3, h3_, h18, h18_, h53, h54, h54_]) (by simp) ?_
        refine AW.seq fun K651 hK651 => ?_
        refine AW.block ?_
        refine AW.seqR mixed [] [none, none, none, none, none, none, none, none, none, none, none, none, none, none, none] (by kernel_rfl) fun G652 R652 hG652 hR652 => ?_
        obtain ⟨v23, h55, h56, h57, hF⟩ := idx_elim hF
        have h57_ := get_of h57
        try simp at h57_
        have h56_ := h56
        try simp at h56_
        try simp [-List.reduceReplicate, sOf_set, ofI_set, allU8_set, h1, h2l, h2m, h2n, h3, h3_, h18, h18_, h53, h54, h54_, h55, h56, h57, h57_, h56_]
        repeat' apply And.intro
        try any_goals (first | omega | (unfold maxLen; omega) | (simp [-List.reduceReplicate, sOf_set, ofI_set, allU8_set, h1, h2l, h2m, h2n, h3, h3_, h18, h18_, h53, h54, h54_, h55, h56, h57, h57_, h56_]; done))
        obtain ⟨v24, h58, hF⟩ := bnd1_elim hF
        refine aCall_l (w_ref01_turn k _ _ _ h58) (by simp) [] [] [] rfl (.cons (.same (by simp [-List.reduceReplicate, sOf_set, ofI_set, allU8_set, h1, h2l, h2m, h2n, h3, h3_, h18, h18_, h53, h54, h54_, h55, h56, h57, h57_, h56_])) (.cons (.same (by simp [-List.reduceReplicate, sOf_set, ofI_set, allU8_set, h1, h2l, h2m, h2n, h3, h3_, h18, h18_, h53, h54, h54_, h55, h56, h57, h57_, h56_])) .nil)) (by simp [-List.reduceReplicate, sOf_set, ofI_set, allU8_set, h1, h2l, h2m, h2n, h3, h3_, h18, h18_, h53, h54, h54_, h55, h56, h57, h57_, h56_]) (by decide) (by simp) (by simp) (.inl rfl) (by simp) (by simp) ?_
        try simp [-List.reduceReplicate, sOf_set, ofI_set, allU8_set, h1, h2l, h2m, h2n, h3, h3_, h18, h18_, h53, h54, h54_, h55, h56, h57, h57_, h56_]
        repeat' apply And.intro
        try any_goals (first | omega | (unfold maxLen; omega) | (simp [-List.reduceReplicate, sOf_set, ofI_set, allU8_set, h1, h2l, h2m, h2n, h3, h3_, h18, h18_, h53, h54, h54_, h55, h56, h57, h57_, h56_]; done))
        obtain ⟨v25, h59, hF⟩ := bnd1_elim hF
        refine aCall_l (w_ref01_turn k _ _ _ h59) (by simp) [] [] [] rfl (.cons (.same (by simp [-List.reduceReplicate, sOf_set, ofI_set, allU8_set, h1, h2l, h2m, h2n, h3, h3_, h18, h18_, h53, h54, h54_, h55, h56, h57, h57_, h56_])) (.cons (.same (by simp [-List.reduceReplicate, sOf_set, ofI_set, allU8_set, h1, h2l, h2m, h2n, h3, h3_, h18, h18_, h53, h54, h54_, h55, h56, h57, h57_, h56_])) .nil)) (by simp [-List.reduceReplicate, sOf_set, ofI_set, allU8_set, h1, h2l, h2m, h2n, h3, h3_, h18, h18_, h53, h54, h54_, h55, h56, h57, h57_, h56_]) (by decide) (by simp) (by simp) (.inl rfl) (by simp) (by simp) ?_
        try simp [-List.reduceReplicate, sOf_set, ofI_set, allU8_set, h1, h2l, h2m, h2n, h3, h3_, h18, h18_, h53, h54, h54_, h55, h56, h57, h57_, h56_]
        repeat' apply And.intro
        try any_goals (first | omega | (unfold maxLen; omega) | (simp [-List.reduceReplicate, sOf_set, ofI_set, allU8_set, h1, h2l, h2m, h2n, h3, h3_, h18, h18_, h53, h54, h54_, h55, h56, h57, h57_, h56_]; done))
        obtain ⟨v26, h60, hF⟩ := bnd1_elim hF
        refine aCall_l (w_ref01_turn k _ _ _ h60) (by simp) [] [] [] rfl (.cons (.same (by simp [-List.reduceReplicate, sOf_set, ofI_set, allU8_set, h1, h2l, h2m, h2n, h3, h3_, h18, h18_, h53, h54, h54_, h55, h56, h57, h57_, h56_])) (.cons (.same (by simp [-List.reduceReplicate, sOf_set, ofI_set, allU8_set, h1, h2l, h2m, h2n, h3, h3_, h18, h18_, h53, h54, h54_, h55, h56, h57, h57_, h56_])) .nil)) (by simp [-List.reduceReplicate, sOf_set, ofI_set, allU8_set, h1, h2l, h2m, h2n, h3, h3_, h18, h18_, h53, h54, h54_, h55, h56, h57, h57_, h56_]) (by decide) (by simp) (by simp) (.inl rfl) (by simp) (by simp) ?_
        try simp [-List.reduceReplicate, sOf_set, ofI_set, allU8_set, h1, h2l, h2m, h2n, h3, h3_, h18, h18_, h53, h54, h54_, h55, h56, h57, h57_, h56_]
        repeat' apply And.intro
        any_goals (first | exact hG652 _ (by kernel_rfl) | refine hR652 _ _ _ ?_ | omega | (unfold maxLen; omega) | (simp [-List.reduceReplicate, sOf_set, ofI_set, allU8_set, h1, h2l, h2m, h2n, h3, h3_, h18, h18_, h53, h54, h54_, h55, h56, h57, h57_, h56_]; done) | (simp [-List.reduceReplicate, sOf_set, ofI_set, allU8_set, h1, h2l, h2m, h2n, h3, h3_, h18, h18_, h53, h54, h54_, h55, h56, h57, h57_, h56_]; omega))
        refine AW.wk [(0, AV.lst false false (List.map (AV.int .u32) v0)), (2, AV.lst false false (List.map (AV.int .u32) v2)), (7, AV.lst false true (List.map (AV.int .u32) v12)), (12, AV.lst false false (List.map (AV.int .u32) v22)), (13, AV.int .i64 v21), (14, AV.int .u32 (bitsV .xor .u32 (bitsV .xor .u32 v24 v25) v26))] [] 1 (by simp [-List.reduceReplicate, sOf_set, ofI_set, allU8_set, h1, h2l, h2m, h2n, h3, h3_, h18, h18_, h53, h54, h54_, h55, h56, h57, h57_, h56_]) (by simp [-List.reduceReplicate, sOf_set, ofI_set, allU8_set, h1, h2l, h2m, h2n, h3, h3_, h18, h18_, h53, h54, h54_, h55, h56, h57, h57_, h56_]) (by simp) ?_
        refine AW.seqR mixed [] [none, none, none, none, none, none, none, none, none, none, none, none, none, none, none, none, none] (by kernel_rfl) fun G653 R653 hG653 hR653 => ?_
        obtain ⟨v27, h61, h62, h63, hF⟩ := idx_elim hF
        have h63_ := get_of h63
        try simp at h63_
        have h62_ := h62
        try simp at h62_
        obtain ⟨v28, h64, h65, h66, hF⟩ := idx_elim hF
        have h66_ := get_of h66
        try simp at h66_
        have h65_ := h65
        try simp at h65_
        try simp [-List.reduceReplicate, sOf_set, ofI_set, allU8_set, h1, h2l, h2m, h2n, h3, h3_, h18, h18_, h53, h54, h54_, h55, h56, h57, h57_, h56_, h61, h62, h63, h63_, h62_, h64, h65, h66, h66_, h65_]
        repeat' apply And.intro
        any_goals (first | exact hG653 _ (by kernel_rfl) | refine hR653 _ _ _ ?_ | omega | (unfold maxLen; omega) | (simp [-List.reduceReplicate, sOf_set, ofI_set, allU8_set, h1, h2l, h2m, h2n, h3, h3_, h18, h18_, h53, h54, h54_, h55, h56, h57, h57_, h56_, h61, h62, h63, h63_, h62_, h64, h65, h66, h66_, h65_]; done) | (simp [-List.reduceReplicate, sOf_set, ofI_set, allU8_set, h1, h2l, h2m, h2n, h3, h3_, h18, h18_, h53, h54, h54_, h55, h56, h57, h57_, h56_, h61, h62, h63, h63_, h62_, h64, h65, h66, h66_, h65_]; omega))
        refine AW.wk [(0, AV.lst false false (List.map (AV.int .u32) v0)), (2, AV.lst false false (List.map (AV.int .u32) v2)), (7, AV.lst false true (List.map (AV.int .u32) v12)), (12, AV.lst false false (List.map (AV.int .u32) v22)), (13, AV.int .i64 v21), (14, AV.int .u32 (bitsV .xor .u32 (bitsV .xor .u32 v24 v25) v26)), (15, AV.int .u32 (bitsV .xor .u32 (bitsV .and .u32 v23 v27) (bitsV .and .u32 (bitsV .xor .u32 (IntKind.max .u32) v23) v28)))] [] 1 (by simp [-List.reduceReplicate, sOf_set, ofI_set, allU8_set, h1, h2l, h2m, h2n, h3, h3_, h18, h18_, h53, h54, h54_, h55, h56, h57, h57_, h56_, h61, h62, h63, h63_, h62_, h64, h65, h66, h66_, h65_]) (by simp [-List.reduceReplicate, sOf_set, ofI_set, allU8_set, h1, h2l, h2m, h2n, h3, h3_, h18, h18_, h53, h54, h54_, h55, h56, h57, h57_, h56_, h61, h62, h63, h63_, h62_, h64, h65, h66, h66_, h65_]) (by simp) ?_
        refine AW.seqR mixed [] [none, none, none, none, none, none, none, none, none, none, none, none, none, none, none, none, none, none] (by kernel_rfl) fun G654 R654 hG654 hR654 => ?_
        obtain ⟨v29, h67, h68, h69, hF⟩ := idx_elim hF
        have h69_ := get_of h69
        try simp at h69_
        have h68_ := h68
        try simp at h68_
        obtain ⟨v30, h70, h71, h72, hF⟩ := idx_elim hF
        have h72_ := get_of h72
        try simp at h72_
        have h71_ := h71
        try simp at h71_
        obtain ⟨v31, h73, h74, h75, hF⟩ := idx_elim hF
        have h75_ := get_of h75
        try simp at h75_
        have h74_ := h74
        try simp at h74_
        try simp [-List.reduceReplicate, sOf_set, ofI_set, allU8_set, h1, h2l, h2m, h2n, h3, h3_, h18, h18_, h53, h54, h54_, h55, h56, h57, h57_, h56_, h61, h62, h63, h63_, h62_, h64, h65, h66, h66_, h65_, h67, h68, h69, h69_, h68_, h70, h71, h72, h72_, h71_, h73, h74, h75, h75_, h74_]
        repeat' apply And.intro
        any_goals (first | exact hG654 _ (by kernel_rfl) | refine hR654 _ _ _ ?_ | omega | (unfold maxLen; omega) | (simp [-List.reduceReplicate, sOf_set, ofI_set, allU8_set, h1, h2l, h2m, h2n, h3, h3_, h18, h18_, h53, h54, h54_, h55, h56, h57, h57_, h56_, h61, h62, h63, h63_, h62_, h64, h65, h66, h66_, h65_, h67, h68, h69, h69_, h68_, h70, h71, h72, h72_, h71_, h73, h74, h75, h75_, h74_]; done) | (simp [-List.reduceReplicate, sOf_set, ofI_set, allU8_set, h1, h2l, h2m, h2n, h3, h3_, h18, h18_, h53, h54, h54_, h55, h56, h57, h57_, h56_, h61, h62, h63, h63_, h62_, h64, h65, h66, h66_, h65_, h67, h68, h69, h69_, h68_, h70, h71, h72, h72_, h71_, h73, h74, h75, h75_, h74_]; omega))
        refine AW.wk [(0, AV.lst false false (List.map (AV.int .u32) v0)), (2, AV.lst false false (List.map (AV.int .u32) v2)), (7, AV.lst false true (List.map (AV.int .u32) v12)), (12, AV.lst false false (List.map (AV.int .u32) v22)), (13, AV.int .i64 v21), (16, AV.int .u32 (IntKind.wrap .u32 (IntKind.wrap .u32 (IntKind.wrap .u32 (IntKind.wrap .u32 (v29 + bitsV .xor .u32 (bitsV .xor .u32 v24 v25) v26) + bitsV .xor .u32 (bitsV .and .u32 v23 v27) (bitsV .and .u32 (bitsV .xor .u32 (IntKind.max .u32) v23) v28)) + v30) + v31)))] [] 1 (by simp [-List.reduceReplicate, sOf_set, ofI_set, allU8_set, h1, h2l, h2m, h2n, h3, h3_, h18, h18_, h53, h54, h54_, h55, h56, h57, h57_, h56_, h61, h62, h63, h63_, h62_, h64, h65, h66, h66_, h65_, h67, h68, h69, h69_, h68_, h70, h71, h72, h72_, h71_, h73, h74, h75, h75_, h74_]) (by simp [-List.reduceReplicate, sOf_set, ofI_set, allU8_set, h1, h2l, h2m, h2n, h3, h3_, h18, h18_, h53, h54, h54_, h55, h56, h57, h57_, h56_, h61, h62, h63, h63_, h62_, h64, h65, h66, h66_, h65_, h67, h68, h69, h69_, h68_, h70, h71, h72, h72_, h71_, h73, h74, h75, h75_, h74_]) (by simp) ?_
        refine AW.seqR mixed [] [none, none, none, none, none, none, none, none, none, none, none, none, none, none, none] (by kernel_rfl) fun G655 R655 hG655 hR655 => ?_
        obtain ⟨v32, h76, h77, h78, hF⟩ := idx_elim hF
        have h78_ := get_of h78
        try simp at h78_
        have h77_ := h77
        try simp at h77_
        have h78z := head_of h78
        try simp [-List.reduceReplicate, sOf_set, ofI_set, allU8_set, h1, h2l, h2m, h2n, h3, h3_, h18, h18_, h53, h54, h54_, h55, h56, h57, h57_, h56_, h61, h62, h63, h63_, h62_, h64, h65, h66, h66_, h65_, h67, h68, h69, h69_, h68_, h70, h71, h72, h72_, h71_, h73, h74, h75, h75_, h74_, h76, h77, h78, h78_, h77_, h78z]
        repeat' apply And.intro
        try any_goals (first | omega | (unfold maxLen; omega) | (simp [-List.reduceReplicate, sOf_set, ofI_set, allU8_set, h1, h2l, h2m, h2n, h3, h3_, h18, h18_, h53, h54, h54_, h55, h56, h57, h57_, h56_, h61, h62, h63, h63_, h62_, h64, h65, h66, h66_, h65_, h67, h68, h69, h69_, h68_, h70, h71, h72, h72_, h71_, h73, h74, h75, h75_, h74_, h76, h77, h78, h78_, h77_, h78z]; done))
        obtain ⟨v33, h79, hF⟩ := bnd1_elim hF
        refine aCall_l (w_ref01_turn k _ _ _ h79) (by simp) [] [] [] rfl (.cons (.same (by simp [-List.reduceReplicate, sOf_set, ofI_set, allU8_set, h1, h2l, h2m, h2n, h3, h3_, h18, h18_, h53, h54, h54_, h55, h56, h57, h57_, h56_, h61, h62, h63, h63_, h62_, h64, h65, h66, h66_, h65_, h67, h68, h69, h69_, h68_, h70, h71, h72, h72_, h71_, h73, h74, h75, h75_, h74_, h76, h77, h78, h78_, h77_, h78z])) (.cons (.same (by simp [-List.reduceReplicate, sOf_set, ofI_set, allU8_set, h1, h2l, h2m, h2n, h3, h3_, h18, h18_, h53, h54, h54_, h55, h56, h57, h57_, h56_, h61, h62, h63, h63_, h62_, h64, h65, h66, h66_, h65_, h67, h68, h69, h69_, h68_, h70, h71, h72, h72_, h71_, h73, h74, h75, h75_, h74_, h76, h77, h78, h78_, h77_, h78z])) .nil)) (by simp [-List.reduceReplicate, sOf_set, ofI_set, allU8_set, h1, h2l, h2m, h2n, h3, h3_, h18, h18_, h53, h54, h54_, h55, h56, h57, h57_, h56_, h61, h62, h63, h63_, h62_, h64, h65, h66, h66_, h65_, h67, h68, h69, h69_, h68_, h70, h71, h72, h72_, h71_, h73, h74, h75, h75_, h74_, h76, h77, h78, h78_, h77_, h78z]) (by decide) (by simp) (by simp) (.inl rfl) (by simp) (by simp) ?_
        try simp [-List.reduceReplicate, sOf_set, ofI_set, allU8_set, h1, h2l, h2m, h2n, h3, h3_, h18, h18_, h53, h54, h54_, h55, h56, h57, h57_, h56_, h61, h62, h63, h63_, h62_, h64, h65, h66, h66_, h65_, h67, h68, h69, h69_, h68_, h70, h71, h72, h72_, h71_, h73, h74, h75, h75_, h74_, h76, h77, h78, h78_, h77_, h78z]
        repeat' apply And.intro
        try any_goals (first | omega | (unfold maxLen; omega) | (simp [-List.reduceReplicate, sOf_set, ofI_set, allU8_set, h1, h2l, h2m, h2n, h3, h3_, h18, h18_, h53, h54, h54_, h55, h56, h57, h57_, h56_, h61, h62, h63, h63_, h62_, h64, h65, h66, h66_, h65_, h67, h68, h69, h69_, h68_, h70, h71, h72, h72_, h71_, h73, h74, h75, h75_, h74_, h76, h77, h78, h78_, h77_, h78z]; done))
        obtain ⟨v34, h80, hF⟩ := bnd1_elim hF
        refine aCall_l (w_ref01_turn k _ _ _ h80) (by simp) [] [] [] rfl (.cons (.same (by simp [-List.reduceReplicate, sOf_set, ofI_set, allU8_set, h1, h2l, h2m, h2n, h3, h3_, h18, h18_, h53, h54, h54_, h55, h56, h57, h57_, h56_, h61, h62, h63, h63_, h62_, h64, h65, h66, h66_, h65_, h67, h68, h69, h69_, h68_, h70, h71, h72, h72_, h71_, h73, h74, h75, h75_, h74_, h76, h77, h78, h78_, h77_, h78z])) (.cons (.same (by simp [-List.reduceReplicate, sOf_set, ofI_set, allU8_set, h1, h2l, h2m, h2n, h3, h3_, h18, h18_, h53, h54, h54_, h55, h56, h57, h57_, h56_, h61, h62, h63, h63_, h62_, h64, h65, h66, h66_, h65_, h67, h68, h69, h69_, h68_, h70, h71, h72, h72_, h71_, h73, h74, h75, h75_, h74_, h76, h77, h78, h78_, h77_, h78z])) .nil)) (by simp [-List.reduceReplicate, sOf_set, ofI_set, allU8_set, h1, h2l, h2m, h2n, h3, h3_, h18, h18_, h53, h54, h54_, h55, h56, h57, h57_, h56_, h61, h62, h63, h63_, h62_, h64, h65, h66, h66_, h65_, h67, h68, h69, h69_, h68_, h70, h71, h72, h72_, h71_, h73, h74, h75, h75_, h74_, h76, h77, h78, h78_, h77_, h78z]) (by decide) (by simp) (by simp) (.inl rfl) (by simp) (by simp) ?_
        try simp [-List.reduceReplicate, sOf_set, ofI_set, allU8_set, h1, h2l, h2m, h2n, h3, h3_, h18, h18_, h53, h54, h54_, h55, h56, h57, h57_, h56_, h61, h62, h63, h63_, h62_, h64, h65, h66, h66_, h65_, h67, h68, h69, h69_, h68_, h70, h71, h72, h72_, h71_, h73, h74, h75, h75_, h74_, h76, h77, h78, h78_, h77_, h78z]
        repeat' apply And.intro
        try any_goals (first | omega | (unfold maxLen; omega) | (simp [-List.reduceReplicate, sOf_set, ofI_set, allU8_set, h1, h2l, h2m, h2n, h3, h3_, h18, h18_, h53, h54, h54_, h55, h56, h57, h57_, h56_, h61, h62, h63, h63_, h62_, h64, h65, h66, h66_, h65_, h67, h68, h69, h69_, h68_, h70, h71, h72, h72_, h71_, h73, h74, h75, h75_, h74_, h76, h77, h78, h78_, h77_, h78z]; done))
        obtain ⟨v35, h81, hF⟩ := bnd1_elim hF
        refine aCall_l (w_ref01_turn k _ _ _ h81) (by simp) [] [] [] rfl (.cons (.same (by simp [-List.reduceReplicate, sOf_set, ofI_set, allU8_set, h1, h2l, h2m, h2n, h3, h3_, h18, h18_, h53, h54, h54_, h55, h56, h57, h57_, h56_, h61, h62, h63, h63_, h62_, h64, h65, h66, h66_, h65_, h67, h68, h69, h69_, h68_, h70, h71, h72, h72_, h71_, h73, h74, h75, h75_, h74_, h76, h77, h78, h78_, h77_, h78z])) (.cons (.same (by simp [-List.reduceReplicate, sOf_set, ofI_set, allU8_set, h1, h2l, h2m, h2n, h3, h3_, h18, h18_, h53, h54, h54_, h55, h56, h57, h57_, h56_, h61, h62, h63, h63_, h62_, h64, h65, h66, h66_, h65_, h67, h68, h69, h69_, h68_, h70, h71, h72, h72_, h71_, h73, h74, h75, h75_, h74_, h76, h77, h78, h78_, h77_, h78z])) .nil)) (by simp [-List.reduceReplicate, sOf_set, ofI_set, allU8_set, h1, h2l, h2m, h2n, h3, h3_, h18, h18_, h53, h54, h54_, h55, h56, h57, h57_, h56_, h61, h62, h63, h63_, h62_, h64, h65, h66, h66_, h65_, h67, h68, h69, h69_, h68_, h70, h71, h72, h72_, h71_, h73, h74, h75, h75_, h74_, h76, h77, h78, h78_, h77_, h78z]) (by decide) (by simp) (by simp) (.inl rfl) (by simp) (by simp) ?_
        try simp [-List.reduceReplicate, sOf_set, ofI_set, allU8_set, h1, h2l, h2m, h2n, h3, h3_, h18, h18_, h53, h54, h54_, h55, h56, h57, h57_, h56_, h61, h62, h63, h63_, h62_, h64, h65, h66, h66_, h65_, h67, h68, h69, h69_, h68_, h70, h71, h72, h72_, h71_, h73, h74, h75, h75_, h74_, h76, h77, h78, h78_, h77_, h78z]
        repeat' apply And.intro
        any_goals (first | exact hG655 _ (by kernel_rfl) | refine hR655 _ _ _ ?_ | omega | (unfold maxLen; omega) | (simp [-List.reduceReplicate, sOf_set, ofI_set, allU8_set, h1, h2l, h2m, h2n, h3, h3_, h18, h18_, h53, h54, h54_, h55, h56, h57, h57_, h56_, h61, h62, h63, h63_, h62_, h64, h65, h66, h66_, h65_, h67, h68, h69, h69_, h68_, h70, h71, h72, h72_, h71_, h73, h74, h75, h75_, h74_, h76, h77, h78, h78_, h77_, h78z]; done) | (simp [-List.reduceReplicate, sOf_set, ofI_set, allU8_set, h1, h2l, h2m, h2n, h3, h3_, h18, h18_, h53, h54, h54_, h55, h56, h57, h57_, h56_, h61, h62, h63, h63_, h62_, h64, h65, h66, h66_, h65_, h67, h68, h69, h69_, h68_, h70, h71, h72, h72_, h71_, h73, h74, h75, h75_, h74_, h76, h77, h78, h78_, h77_, h78z]; omega))
        refine AW.wk [(0, AV.lst false false (List.map (AV.int .u32) v0)), (2, AV.lst false false (List.map (AV.int .u32) v2)), (7, AV.lst false true (List.map (AV.int .u32) v12)), (12, AV.lst false false (List.map (AV.int .u32) v22)), (13, AV.int .i64 v21), (14, AV.int .u32 (bitsV .xor .u32 (bitsV .xor .u32 v33 v34) v35)), (16, AV.int .u32 (IntKind.wrap .u32 (IntKind.wrap .u32 (IntKind.wrap .u32 (IntKind.wrap .u32 (v29 + bitsV .xor .u32 (bitsV .xor .u32 v24 v25) v26) + bitsV .xor .u32 (bitsV .and .u32 v23 v27) (bitsV .and .u32 (bitsV .xor .u32 (IntKind.max .u32) v23) v28)) + v30) + v31)))] [] 1 (by simp [-List.reduceReplicate, sOf_set, ofI_set, allU8_set, h1, h2l, h2m, h2n, h3, h3_, h18, h18_, h53, h54, h54_, h55, h56, h57, h57_, h56_, h61, h62, h63, h63_, h62_, h64, h65, h66, h66_, h65_, h67, h68, h69, h69_, h68_, h70, h71, h72, h72_, h71_, h73, h74, h75, h75_, h74_, h76, h77, h78, h78_, h77_, h78z]) (by simp [-List.reduceReplicate, sOf_set, ofI_set, allU8_set, h1, h2l, h2m, h2n, h3, h3_, h18, h18_, h53, h54, h54_, h55, h56, h57, h57_, h56_, h61, h62, h63, h63_, h62_, h64, h65, h66, h66_, h65_, h67, h68, h69, h69_, h68_, h70, h71, h72, h72_, h71_, h73, h74, h75, h75_, h74_, h76, h77, h78, h78_, h77_, h78z]) (by simp) ?_
        refine AW.seqR mixed [] [none, none, none, none, none, none, none, none, none, none, none, none, none, none, none, none, none, none, none, none, none, none, none, none] (by kernel_rfl) fun G656 R656 hG656 hR656 => ?_
        obtain ⟨v36, h82, h83, h84, hF⟩ := idx_elim hF
        have h84_ := get_of h84
        try simp at h84_
        have h83_ := h83
        try simp at h83_
        obtain ⟨v37, h85, h86, h87, hF⟩ := idx_elim hF
        have h87_ := get_of h87
        try simp at h87_
        have h86_ := h86
        try simp at h86_
        try simp [-List.reduceReplicate, sOf_set, ofI_set, allU8_set, h1, h2l, h2m, h2n, h3, h3_, h18, h18_, h53, h54, h54_, h55, h56, h57, h57_, h56_, h61, h62, h63, h63_, h62_, h64, h65, h66, h66_, h65_, h67, h68, h69, h69_, h68_, h70, h71, h72, h72_, h71_, h73, h74, h75, h75_, h74_, h76, h77, h78, h78_, h77_, h78z, h82, h83, h84, h84_, h83_, h85, h86, h87, h87_, h86_]
        repeat' apply And.intro
        any_goals (first | exact hG656 _ (by kernel_rfl) | refine hR656 _ _ _ ?_ | omega | (unfold maxLen; omega) | (simp [-List.reduceReplicate, sOf_set, ofI_set, allU8_set, h1, h2l, h2m, h2n, h3, h3_, h18, h18_, h53, h54, h54_, h55, h56, h57, h57_, h56_, h61, h62, h63, h63_, h62_, h64, h65, h66, h66_, h65_, h67, h68, h69, h69_, h68_, h70, h71, h72, h72_, h71_, h73, h74, h75, h75_, h74_, h76, h77, h78, h78_, h77_, h78z, h82, h83, h84, h84_, h83_, h85, h86, h87, h87_, h86_]; done) | (simp [-List.reduceReplicate, sOf_set, ofI_set, allU8_set, h1, h2l, h2m, h2n, h3, h3_, h18, h18_, h53, h54, h54_, h55, h56, h57, h57_, h56_, h61, h62, h63, h63_, h62_, h64, h65, h66, h66_, h65_, h67, h68, h69, h69_, h68_, h70, h71, h72, h72_, h71_, h73, h74, h75, h75_, h74_, h76, h77, h78, h78_, h77_, h78z, h82, h83, h84, h84_, h83_, h85, h86, h87, h87_, h86_]; omega))
        refine AW.wk [(0, AV.lst false false (List.map (AV.int .u32) v0)), (2, AV.lst false false (List.map (AV.int .u32) v2)), (7, AV.lst false true (List.map (AV.int .u32) v12)), (12, AV.lst false false (List.map (AV.int .u32) v22)), (13, AV.int .i64 v21), (14, AV.int .u32 (bitsV .xor .u32 (bitsV .xor .u32 v33 v34) v35)), (16, AV.int .u32 (IntKind.wrap .u32 (IntKind.wrap .u32 (IntKind.wrap .u32 (IntKind.wrap .u32 (v29 + bitsV .xor .u32 (bitsV .xor .u32 v24 v25) v26) + bitsV .xor .u32 (bitsV .and .u32 v23 v27) (bitsV .and .u32 (bitsV .xor .u32 (IntKind.max .u32) v23) v28)) + v30) + v31))), (17, AV.int .u32 (bitsV .xor .u32 (bitsV .xor .u32 (bitsV .and .u32 v32 v36) (bitsV .and .u32 v32 v37)) (bitsV .and .u32 v36 v37)))] [] 1 (by simp [-List.reduceReplicate, sOf_set, ofI_set, allU8_set, h1, h2l, h2m, h2n, h3, h3_, h18, h18_, h53, h54, h54_, h55, h56, h57, h57_, h56_, h61, h62, h63, h63_, h62_, h64, h65, h66, h66_, h65_, h67, h68, h69, h69_, h68_, h70, h71, h72, h72_, h71_, h73, h74, h75, h75_, h74_, h76, h77, h78, h78_, h77_, h78z, h82, h83, h84, h84_, h83_, h85, h86, h87, h87_, h86_]) (by simp [-List.reduceReplicate, sOf_set, ofI_set, allU8_set, h1, h2l, h2m, h2n, h3, h3_, h18, h18_, h53, h54, h54_, h55, h56, h57, h57_, h56_, h61, h62, h63, h63_, h62_, h64, h65, h66, h66_, h65_, h67, h68, h69, h69_, h68_, h70, h71, h72, h72_, h71_, h73, h74, h75, h75_, h74_, h76, h77, h78, h78_, h77_, h78z, h82, h83, h84, h84_, h83_, h85, h86, h87, h87_, h86_]) (by simp) ?_
        refine AW.region mixed [240] [none, none, none, none, none, none, none, none, none, none, none, none, none, none, none, none, none, none, none, none, none, none, none, none, none, none, none, none, none, none] (by kernel_rfl) fun G657 R657 hG657 hR657 => ?_
        obtain ⟨v38, h88, h89, h90, hF⟩ := idx_elim hF
        have h90_ := get_of h90
        try simp at h90_
        have h89_ := h89
        try simp at h89_
        try simp [-List.reduceReplicate, sOf_set, ofI_set, allU8_set, h1, h2l, h2m, h2n, h3, h3_, h18, h18_, h53, h54, h54_, h55, h56, h57, h57_, h56_, h61, h62, h63, h63_, h62_, h64, h65, h66, h66_, h65_, h67, h68, h69, h69_, h68_, h70, h71, h72, h72_, h71_, h73, h74, h75, h75_, h74_, h76, h77, h78, h78_, h77_, h78z, h82, h83, h84, h84_, h83_, h85, h86, h87, h87_, h86_, h88, h89, h90, h90_, h89_]
        repeat' apply And.intro
        any_goals (first | exact hG657 _ (by kernel_rfl) | refine hR657 _ _ _ ?_ | omega | (unfold maxLen; omega) | (simp [-List.reduceReplicate, sOf_set, ofI_set, allU8_set, h1, h2l, h2m, h2n, h3, h3_, h18, h18_, h53, h54, h54_, h55, h56, h57, h57_, h56_, h61, h62, h63, h63_, h62_, h64, h65, h66, h66_, h65_, h67, h68, h69, h69_, h68_, h70, h71, h72, h72_, h71_, h73, h74, h75, h75_, h74_, h76, h77, h78, h78_, h77_, h78z, h82, h83, h84, h84_, h83_, h85, h86, h87, h87_, h86_, h88, h89, h90, h90_, h89_]; done) | (simp [-List.reduceReplicate, sOf_set, ofI_set, allU8_set, h1, h2l, h2m, h2n, h3, h3_, h18, h18_, h53, h54, h54_, h55, h56, h57, h57_, h56_, h61, h62, h63, h63_, h62_, h64, h65, h66, h66_, h65_, h67, h68, h69, h69_, h68_, h70, h71, h72, h72_, h71_, h73, h74, h75, h75_, h74_, h76, h77, h78, h78_, h77_, h78z, h82, h83, h84, h84_, h83_, h85, h86, h87, h87_, h86_, h88, h89, h90, h90_, h89_]; omega))
        refine hK651 _ _ _ ?_
        refine AW.wk [(0, AV.lst false false (List.map (AV.int .u32) v0)), (2, AV.lst false false (List.map (AV.int .u32) v2)), (7, AV.lst false true (List.map (AV.int .u32) v12)), (12, AV.slc 1 0 1 (([IntKind.wrap .u32 (IntKind.wrap .u32 (IntKind.wrap .u32 (IntKind.wrap .u32 (IntKind.wrap .u32 (IntKind.wrap .u32 (v29 + bitsV .xor .u32 (bitsV .xor .u32 v24 v25) v26) + bitsV .xor .u32 (bitsV .and .u32 v23 v27) (bitsV .and .u32 (bitsV .xor .u32 (IntKind.max .u32) v23) v28)) + v30) + v31) + bitsV .xor .u32 (bitsV .xor .u32 v33 v34) v35) + bitsV .xor .u32 (bitsV .xor .u32 (bitsV .and .u32 v32 v36) (bitsV .and .u32 v32 v37)) (bitsV .and .u32 v36 v37)), v32, v36, v37, IntKind.wrap .u32 (v38 + IntKind.wrap .u32 (IntKind.wrap .u32 (IntKind.wrap .u32 (IntKind.wrap .u32 (v29 + bitsV .xor .u32 (bitsV .xor .u32 v24 v25) v26) + bitsV .xor .u32 (bitsV .and .u32 v23 v27) (bitsV .and .u32 (bitsV .xor .u32 (IntKind.max .u32) v23) v28)) + v30) + v31)), v23, v27, v28] : List Int).length) true), (13, AV.int .i64 v21)] [(1, .cells (List.map (AV.int .u32) ([IntKind.wrap .u32 (IntKind.wrap .u32 (IntKind.wrap .u32 (IntKind.wrap .u32 (IntKind.wrap .u32 (IntKind.wrap .u32 (v29 + bitsV .xor .u32 (bitsV .xor .u32 v24 v25) v26) + bitsV .xor .u32 (bitsV .and .u32 v23 v27) (bitsV .and .u32 (bitsV .xor .u32 (IntKind.max .u32) v23) v28)) + v30) + v31) + bitsV .xor .u32 (bitsV .xor .u32 v33 v34) v35) + bitsV .xor .u32 (bitsV .xor .u32 (bitsV .and .u32 v32 v36) (bitsV .and .u32 v32 v37)) (bitsV .and .u32 v36 v37)), v32, v36, v37, IntKind.wrap .u32 (v38 + IntKind.wrap .u32 (IntKind.wrap .u32 (IntKind.wrap .u32 (IntKind.wrap .u32 (v29 + bitsV .xor .u32 (bitsV .xor .u32 v24 v25) v26) + bitsV .xor .u32 (bitsV .and .u32 v23 v27) (bitsV .and .u32 (bitsV .xor .u32 (IntKind.max .u32) v23) v28)) + v30) + v31)), v23, v27, v28] : List Int)))] 2 (by simp [-List.reduceReplicate, sOf_set, ofI_set, allU8_set, h1, h2l, h2m, h2n, h3, h3_, h18, h18_, h53, h54, h54_, h55, h56, h57, h57_, h56_, h61, h62, h63, h63_, h62_, h64, h65, h66, h66_, h65_, h67, h68, h69, h69_, h68_, h70, h71, h72, h72_, h71_, h73, h74, h75, h75_, h74_, h76, h77, h78, h78_, h77_, h78z, h82, h83, h84, h84_, h83_, h85, h86, h87, h87_, h86_, h88, h89, h90, h90_, h89_]) (by simp [-List.reduceReplicate, sOf_set, ofI_set, allU8_set, h1, h2l, h2m, h2n, h3, h3_, h18, h18_, h53, h54, h54_, h55, h56, h57, h57_, h56_, h61, h62, h63, h63_, h62_, h64, h65, h66, h66_, h65_, h67, h68, h69, h69_, h68_, h70, h71, h72, h72_, h71_, h73, h74, h75, h75_, h74_, h76, h77, h78, h78_, h77_, h78z, h82, h83, h84, h84_, h83_, h85, h86, h87, h87_, h86_, h88, h89, h90, h90_, h89_]) (by simp) ?_
        refine AW.region mixed [] [none, none, none] (by kernel_rfl) fun G658 R658 hG658 hR658 => ?_
        try simp [-List.reduceReplicate, sOf_set, ofI_set, allU8_set, h1, h2l, h2m, h2n, h3, h3_, h18, h18_, h53, h54, h54_, h55, h56, h57, h57_, h56_, h61, h62, h63, h63_, h62_, h64, h65, h66, h66_, h65_, h67, h68, h69, h69_, h68_, h70, h71, h72, h72_, h71_, h73, h74, h75, h75_, h74_, h76, h77, h78, h78_, h77_, h78z, h82, h83, h84, h84_, h83_, h85, h86, h87, h87_, h86_, h88, h89, h90, h90_, h89_]
        repeat' apply And.intro
        any_goals (first | exact hG658 _ (by kernel_rfl) | refine hR658 _ _ _ ?_ | omega | (unfold maxLen; omega) | (simp [-List.reduceReplicate, sOf_set, ofI_set, allU8_set, h1, h2l, h2m, h2n, h3, h3_, h18, h18_, h53, h54, h54_, h55, h56, h57, h57_, h56_, h61, h62, h63, h63_, h62_, h64, h65, h66, h66_, h65_, h67, h68, h69, h69_, h68_, h70, h71, h72, h72_, h71_, h73, h74, h75, h75_, h74_, h76, h77, h78, h78_, h77_, h78z, h82, h83, h84, h84_, h83_, h85, h86, h87, h87_, h86_, h88, h89, h90, h90_, h89_]; done) | (simp [-List.reduceReplicate, sOf_set, ofI_set, allU8_set, h1, h2l, h2m, h2n, h3, h3_, h18, h18_, h53, h54, h54_, h55, h56, h57, h57_, h56_, h61, h62, h63, h63_, h62_, h64, h65, h66, h66_, h65_, h67, h68, h69, h69_, h68_, h70, h71, h72, h72_, h71_, h73, h74, h75, h75_, h74_, h76, h77, h78, h78_, h77_, h78z, h82, h83, h84, h84_, h83_, h85, h86, h87, h87_, h86_, h88, h89, h90, h90_, h89_]; omega))
        refine hK641 _ _ _ ?_
        refine Can.weak [(0, AV.lst false false (List.map (AV.int .u32) v0)), (2, AV.lst false false (List.map (AV.int .u32) v2)), (7, AV.lst false true (List.map (AV.int .u32) v12)), (12, AV.slc 1 0 1 (([IntKind.wrap .u32 (IntKind.wrap .u32 (IntKind.wrap .u32 (IntKind.wrap .u32 (IntKind.wrap .u32 (IntKind.wrap .u32 (v29 + bitsV .xor .u32 (bitsV .xor .u32 v24 v25) v26) + bitsV .xor .u32 (bitsV .and .u32 v23 v27) (bitsV .and .u32 (bitsV .xor .u32 (IntKind.max .u32) v23) v28)) + v30) + v31) + bitsV .xor .u32 (bitsV .xor .u32 v33 v34) v35) + bitsV .xor .u32 (bitsV .xor .u32 (bitsV .and .u32 v32 v36) (bitsV .and .u32 v32 v37)) (bitsV .and .u32 v36 v37)), v32, v36, v37, IntKind.wrap .u32 (v38 + IntKind.wrap .u32 (IntKind.wrap .u32 (IntKind.wrap .u32 (IntKind.wrap .u32 (v29 + bitsV .xor .u32 (bitsV .xor .u32 v24 v25) v26) + bitsV .xor .u32 (bitsV .and .u32 v23 v27) (bitsV .and .u32 (bitsV .xor .u32 (IntKind.max .u32) v23) v28)) + v30) + v31)), v23, v27, v28] : List Int).length) true), (13, AV.int .i64 (IntKind.wrap .i64 (v21 + 1)))] [(1, .cells (List.map (AV.int .u32) ([IntKind.wrap .u32 (IntKind.wrap .u32 (IntKind.wrap .u32 (IntKind.wrap .u32 (IntKind.wrap .u32 (IntKind.wrap .u32 (v29 + bitsV .xor .u32 (bitsV .xor .u32 v24 v25) v26) + bitsV .xor .u32 (bitsV .and .u32 v23 v27) (bitsV .and .u32 (bitsV .xor .u32 (IntKind.max .u32) v23) v28)) + v30) + v31) + bitsV .xor .u32 (bitsV .xor .u32 v33 v34) v35) + bitsV .xor .u32 (bitsV .xor .u32 (bitsV .and .u32 v32 v36) (bitsV .and .u32 v32 v37)) (bitsV .and .u32 v36 v37)), v32, v36, v37, IntKind.wrap .u32 (v38 + IntKind.wrap .u32 (IntKind.wrap .u32 (IntKind.wrap .u32 (IntKind.wrap .u32 (v29 + bitsV .xor .u32 (bitsV .xor .u32 v24 v25) v26) + bitsV .xor .u32 (bitsV .and .u32 v23 v27) (bitsV .and .u32 (bitsV .xor .u32 (IntKind.max .u32) v23) v28)) + v30) + v31)), v23, v27, v28] : List Int)))] 2 (by simp [-List.reduceReplicate, sOf_set, ofI_set, allU8_set, h1, h2l, h2m, h2n, h3, h3_, h18, h18_, h53, h54, h54_, h55, h56, h57, h57_, h56_, h61, h62, h63, h63_, h62_, h64, h65, h66, h66_, h65_, h67, h68, h69, h69_, h68_, h70, h71, h72, h72_, h71_, h73, h74, h75, h75_, h74_, h76, h77, h78, h78_, h77_, h78z, h82, h83, h84, h84_, h83_, h85, h86, h87, h87_, h86_, h88, h89, h90, h90_, h89_]) (by simp [-List.reduceReplicate, sOf_set, ofI_set, allU8_set, h1, h2l, h2m, h2n, h3, h3_, h18, h18_, h53, h54, h54_, h55, h56, h57, h57_, h56_, h61, h62, h63, h63_, h62_, h64, h65, h66, h66_, h65_, h67, h68, h69, h69_, h68_, h70, h71, h72, h72_, h71_, h73, h74, h75, h75_, h74_, h76, h77, h78, h78_, h77_, h78z, h82, h83, h84, h84_, h83_, h85, h86, h87, h87_, h86_, h88, h89, h90, h90_, h89_]) (by simp) ?_
        refine Can.ren (m := 0) h0 [(0, 1)] [(0, AV.lst false false (List.map (AV.int .u32) v0)), (2, AV.lst false false (List.map (AV.int .u32) v2)), (7, AV.lst false true (List.map (AV.int .u32) v12)), (12, AV.slc 0 0 1 (([IntKind.wrap .u32 (IntKind.wrap .u32 (IntKind.wrap .u32 (IntKind.wrap .u32 (IntKind.wrap .u32 (IntKind.wrap .u32 (v29 + bitsV .xor .u32 (bitsV .xor .u32 v24 v25) v26) + bitsV .xor .u32 (bitsV .and .u32 v23 v27) (bitsV .and .u32 (bitsV .xor .u32 (IntKind.max .u32) v23) v28)) + v30) + v31) + bitsV .xor .u32 (bitsV .xor .u32 v33 v34) v35) + bitsV .xor .u32 (bitsV .xor .u32 (bitsV .and .u32 v32 v36) (bitsV .and .u32 v32 v37)) (bitsV .and .u32 v36 v37)), v32, v36, v37, IntKind.wrap .u32 (v38 + IntKind.wrap .u32 (IntKind.wrap .u32 (IntKind.wrap .u32 (IntKind.wrap .u32 (v29 + bitsV .xor .u32 (bitsV .xor .u32 v24 v25) v26) + bitsV .xor .u32 (bitsV .and .u32 v23 v27) (bitsV .and .u32 (bitsV .xor .u32 (IntKind.max .u32) v23) v28)) + v30) + v31)), v23, v27, v28] : List Int).length) true), (13, AV.int .i64 (IntKind.wrap .i64 (v21 + 1)))] [(0, .cells (List.map (AV.int .u32) ([IntKind.wrap .u32 (IntKind.wrap .u32 (IntKind.wrap .u32 (IntKind.wrap .u32 (IntKind.wrap .u32 (IntKind.wrap .u32 (v29 + bitsV .xor .u32 (bitsV .xor .u32 v24 v25) v26) + bitsV .xor .u32 (bitsV .and .u32 v23 v27) (bitsV .and .u32 (bitsV .xor .u32 (IntKind.max .u32) v23) v28)) + v30) + v31) + bitsV .xor .u32 (bitsV .xor .u32 v33 v34) v35) + bitsV .xor .u32 (bitsV .xor .u32 (bitsV .and .u32 v32 v36) (bitsV .and .u32 v32 v37)) (bitsV .and .u32 v36 v37)), v32, v36, v37, IntKind.wrap .u32 (v38 + IntKind.wrap .u32 (IntKind.wrap .u32 (IntKind.wrap .u32 (IntKind.wrap .u32 (v29 + bitsV .xor .u32 (bitsV .xor .u32 v24 v25) v26) + bitsV .xor .u32 (bitsV .and .u32 v23 v27) (bitsV .and .u32 (bitsV .xor .u32 (IntKind.max .u32) v23) v28)) + v30) + v31)), v23, v27, v28] : List Int)))] 1 (by decide) (by decide) (by decide) rfl (by simp [-List.reduceReplicate, sOf_set, ofI_set, allU8_set, h1, h2l, h2m, h2n, h3, h3_, h18, h18_, h53, h54, h54_, h55, h56, h57, h57_, h56_, h61, h62, h63, h63_, h62_, h64, h65, h66, h66_, h65_, h67, h68, h69, h69_, h68_, h70, h71, h72, h72_, h71_, h73, h74, h75, h75_, h74_, h76, h77, h78, h78_, h77_, h78z, h82, h83, h84, h84_, h83_, h85, h86, h87, h87_, h86_, h88, h89, h90, h90_, h89_]) (by simp [-List.reduceReplicate, sOf_set, ofI_set, allU8_set, h1, h2l, h2m, h2n, h3, h3_, h18, h18_, h53, h54, h54_, h55, h56, h57, h57_, h56_, h61, h62, h63, h63_, h62_, h64, h65, h66, h66_, h65_, h67, h68, h69, h69_, h68_, h70, h71, h72, h72_, h71_, h73, h74, h75, h75_, h74_, h76, h77, h78, h78_, h77_, h78z, h82, h83, h84, h84_, h83_, h85, h86, h87, h87_, h86_, h88, h89, h90, h90_, h89_]) ?_
        refine Can.flg [(12, AV.slc 0 0 1 (([IntKind.wrap .u32 (IntKind.wrap .u32 (IntKind.wrap .u32 (IntKind.wrap .u32 (IntKind.wrap .u32 (IntKind.wrap .u32 (v29 + bitsV .xor .u32 (bitsV .xor .u32 v24 v25) v26) + bitsV .xor .u32 (bitsV .and .u32 v23 v27) (bitsV .and .u32 (bitsV .xor .u32 (IntKind.max .u32) v23) v28)) + v30) + v31) + bitsV .xor .u32 (bitsV .xor .u32 v33 v34) v35) + bitsV .xor .u32 (bitsV .xor .u32 (bitsV .and .u32 v32 v36) (bitsV .and .u32 v32 v37)) (bitsV .and .u32 v36 v37)), v32, v36, v37, IntKind.wrap .u32 (v38 + IntKind.wrap .u32 (IntKind.wrap .u32 (IntKind.wrap .u32 (IntKind.wrap .u32 (v29 + bitsV .xor .u32 (bitsV .xor .u32 v24 v25) v26) + bitsV .xor .u32 (bitsV .and .u32 v23 v27) (bitsV .and .u32 (bitsV .xor .u32 (IntKind.max .u32) v23) v28)) + v30) + v31)), v23, v27, v28] : List Int).length) false)] [(0, .grow (List.map (AV.int .u32) ([IntKind.wrap .u32 (IntKind.wrap .u32 (IntKind.wrap .u32 (IntKind.wrap .u32 (IntKind.wrap .u32 (IntKind.wrap .u32 (v29 + bitsV .xor .u32 (bitsV .xor .u32 v24 v25) v26) + bitsV .xor .u32 (bitsV .and .u32 v23 v27) (bitsV .and .u32 (bitsV .xor .u32 (IntKind.max .u32) v23) v28)) + v30) + v31) + bitsV .xor .u32 (bitsV .xor .u32 v33 v34) v35) + bitsV .xor .u32 (bitsV .xor .u32 (bitsV .and .u32 v32 v36) (bitsV .and .u32 v32 v37)) (bitsV .and .u32 v36 v37)), v32, v36, v37, IntKind.wrap .u32 (v38 + IntKind.wrap .u32 (IntKind.wrap .u32 (IntKind.wrap .u32 (IntKind.wrap .u32 (v29 + bitsV .xor .u32 (bitsV .xor .u32 v24 v25) v26) + bitsV .xor .u32 (bitsV .and .u32 v23 v27) (bitsV .and .u32 (bitsV .xor .u32 (IntKind.max .u32) v23) v28)) + v30) + v31)), v23, v27, v28] : List Int)))] ⟨.slc, trivial⟩ ⟨⟨AObj.cells (List.map (AV.int .u32) ([IntKind.wrap .u32 (IntKind.wrap .u32 (IntKind.wrap .u32 (IntKind.wrap .u32 (IntKind.wrap .u32 (IntKind.wrap .u32 (v29 + bitsV .xor .u32 (bitsV .xor .u32 v24 v25) v26) + bitsV .xor .u32 (bitsV .and .u32 v23 v27) (bitsV .and .u32 (bitsV .xor .u32 (IntKind.max .u32) v23) v28)) + v30) + v31) + bitsV .xor .u32 (bitsV .xor .u32 v33 v34) v35) + bitsV .xor .u32 (bitsV .xor .u32 (bitsV .and .u32 v32 v36) (bitsV .and .u32 v32 v37)) (bitsV .and .u32 v36 v37)), v32, v36, v37, IntKind.wrap .u32 (v38 + IntKind.wrap .u32 (IntKind.wrap .u32 (IntKind.wrap .u32 (IntKind.wrap .u32 (v29 + bitsV .xor .u32 (bitsV .xor .u32 v24 v25) v26) + bitsV .xor .u32 (bitsV .and .u32 v23 v27) (bitsV .and .u32 (bitsV .xor .u32 (IntKind.max .u32) v23) v28)) + v30) + v31)), v23, v27, v28] : List Int)), by simp [-List.reduceReplicate, sOf_set, ofI_set, allU8_set, h1, h2l, h2m, h2n, h3, h3_, h18, h18_, h53, h54, h54_, h55, h56, h57, h57_, h56_, h61, h62, h63, h63_, h62_, h64, h65, h66, h66_, h65_, h67, h68, h69, h69_, h68_, h70, h71, h72, h72_, h71_, h73, h74, h75, h75_, h74_, h76, h77, h78, h78_, h77_, h78z, h82, h83, h84, h84_, h83_, h85, h86, h87, h87_, h86_, h88, h89, h90, h90_, h89_], (.gr (by simp [-List.reduceReplicate, sOf_set, ofI_set, allU8_set, h1, h2l, h2m, h2n, h3, h3_, h18, h18_, h53, h54, h54_, h55, h56, h57, h57_, h56_, h61, h62, h63, h63_, h62_, h64, h65, h66, h66_, h65_, h67, h68, h69, h69_, h68_, h70, h71, h72, h72_, h71_, h73, h74, h75, h75_, h74_, h76, h77, h78, h78_, h77_, h78z, h82, h83, h84, h84_, h83_, h85, h86, h87, h87_, h86_, h88, h89, h90, h90_, h89_]))⟩, trivial⟩ (by simp) ?_
        exact Can.next (k' := n3) ((IntKind.wrap .i64 (v21 + 1), ([IntKind.wrap .u32 (IntKind.wrap .u32 (IntKind.wrap .u32 (IntKind.wrap .u32 (IntKind.wrap .u32 (IntKind.wrap .u32 (v29 + bitsV .xor .u32 (bitsV .xor .u32 v24 v25) v26) + bitsV .xor .u32 (bitsV .and .u32 v23 v27) (bitsV .and .u32 (bitsV .xor .u32 (IntKind.max .u32) v23) v28)) + v30) + v31) + bitsV .xor .u32 (bitsV .xor .u32 v33 v34) v35) + bitsV .xor .u32 (bitsV .xor .u32 (bitsV .and .u32 v32 v36) (bitsV .and .u32 v32 v37)) (bitsV .and .u32 v36 v37)), v32, v36, v37, IntKind.wrap .u32 (v38 + IntKind.wrap .u32 (IntKind.wrap .u32 (IntKind.wrap .u32 (IntKind.wrap .u32 (v29 + bitsV .xor .u32 (bitsV .xor .u32 v24 v25) v26) + bitsV .xor .u32 (bitsV .and .u32 v23 v27) (bitsV .and .u32 (bitsV .xor .u32 (IntKind.max .u32) v23) v28)) + v30) + v31)), v23, v27, v28] : List Int))) (by omega) hF (by simp [-List.reduceReplicate, sOf_set, ofI_set, allU8_set, h1, h2l, h2m, h2n, h3, h3_, h18, h18_, h53, h54, h54_, h55, h56, h57, h57_, h56_, h61, h62, h63, h63_, h62_, h64, h65, h66, h66_, h65_, h67, h68, h69, h69_, h68_, h70, h71, h72, h72_, h71_, h73, h74, h75, h75_, h74_, h76, h77, h78, h78_, h77_, h78z, h82, h83, h84, h84_, h83_, h85, h86, h87, h87_, h86_, h88, h89, h90, h90_, h89_]) (by simp [-List.reduceReplicate, sOf_set, ofI_set, allU8_set, h1, h2l, h2m, h2n, h3, h3_, h18, h18_, h53, h54, h54_, h55, h56, h57, h57_, h56_, h61, h62, h63, h63_, h62_, h64, h65, h66, h66_, h65_, h67, h68, h69, h69_, h68_, h70, h71, h72, h72_, h71_, h73, h74, h75, h75_, h74_, h76, h77, h78, h78_, h77_, h78z, h82, h83, h84, h84_, h83_, h85, h86, h87, h87_, h86_, h88, h89, h90, h90_, h89_]) (by simp)
      · replace hF := ite_f h54 hF
        have h54_ := h54
        try simp at h54_
        refine AW.condF (by decide) (by first | (simp [-List.reduceReplicate, sOf_set, ofI_set, allU8_set, h1, h2l, h2m, h2n, h3, h3_, h18, h18_, h53, h54, h54_]; done) | (simp [-List.reduceReplicate, sOf_set, ofI_set, allU8_set, h1, h2l, h2m, h2n, h3, h3_, h18, h18_, h53, h54, h54_]; omega)) ?_
        refine AW.exit ?_
        try simp
        refine hK588 _ _ _ ?_
        refine AW.seq fun K689 hK689 => ?_
        refine AW.seqR mixed [] [none] (by kernel_rfl) fun G690 R690 hG690 hR690 => ?_
        try simp [-List.reduceReplicate, sOf_set, ofI_set, allU8_set, h1, h2l, h2m, h2n, h3, h3_, h18, h18_, h53, h54, h54_]
        repeat' apply And.intro
        any_goals (first | exact hG690 _ (by kernel_rfl) | refine hR690 _ _ _ ?_ | omega | (unfold maxLen; omega) | (simp [-List.reduceReplicate, sOf_set, ofI_set, allU8_set, h1, h2l, h2m, h2n, h3, h3_, h18, h18_, h53, h54, h54_]; done) | (simp [-List.reduceReplicate, sOf_set, ofI_set, allU8_set, h1, h2l, h2m, h2n, h3, h3_, h18, h18_, h53, h54, h54_]; omega))
        refine AW.wk [(0, AV.lst false false (List.map (AV.int .u32) v0)), (12, AV.slc 0 0 1 v22.length false), (18, AV.int .i64 0)] [(0, .grow (List.map (AV.int .u32) v22))] 1 (by simp [-List.reduceReplicate, sOf_set, ofI_set, allU8_set, h1, h2l, h2m, h2n, h3, h3_, h18, h18_, h53, h54, h54_]) (by simp [-List.reduceReplicate, sOf_set, ofI_set, allU8_set, h1, h2l, h2m, h2n, h3, h3_, h18, h18_, h53, h54, h54_]) (by simp) ?_
        refine AW.block ?_
        refine AW.loopF (α := (Int × (List Int))) (fun n (v39, v40) => ref01_block.L4 k v0 n v39 v40 = some v3) (fun (v39, v40) => [(0, AV.lst false false (List.map (AV.int .u32) v0)), (12, AV.slc 0 0 1 v40.length false), (18, AV.int .i64 v39)]) (fun (v39, v40) => [(0, .grow (List.map (AV.int .u32) v40))]) 1 k ((0, v22)) hF (by simp [-List.reduceReplicate, sOf_set, ofI_set, allU8_set, h1, h2l, h2m, h2n, h3, h3_, h18, h18_, h53, h54, h54_]) (by simp [-List.reduceReplicate, sOf_set, ofI_set, allU8_set, h1, h2l, h2m, h2n, h3, h3_, h18, h18_, h53, h54, h54_]) (by simp) ?_
        rintro (_|n4) ⟨v39, v40⟩ hF K712 hK712
        · try dsimp only at hF
          rw [ref01_block.L4] at hF; cases hF
        try dsimp only at hF
        rw [ref01_block.L4] at hF
        refine AW.seq fun K714 hK714 => ?_
        refine AW.seqR mixed [] [none, none] (by kernel_rfl) fun G715 R715 hG715 hR715 => ?_
        try simp [-List.reduceReplicate, sOf_set, ofI_set, allU8_set, h1, h2l, h2m, h2n, h3, h3_, h18, h18_, h53, h54, h54_]
        repeat' apply And.intro
        any_goals (first | exact hG715 _ (by kernel_rfl) | refine hR715 _ _ _ ?_ | omega | (unfold maxLen; omega) | (simp [-List.reduceReplicate, sOf_set, ofI_set, allU8_set, h1, h2l, h2m, h2n, h3, h3_, h18, h18_, h53, h54, h54_]; done) | (simp [-List.reduceReplicate, sOf_set, ofI_set, allU8_set, h1, h2l, h2m, h2n, h3, h3_, h18, h18_, h53, h54, h54_]; omega))
        refine AW.wk [(0, AV.lst false false (List.map (AV.int .u32) v0)), (12, AV.slc 0 0 1 v40.length false), (18, AV.int .i64 v39), (242, AV.bool (decide (v39 < 8)))] [(0, .grow (List.map (AV.int .u32) v40))] 1 (by simp [-List.reduceReplicate, sOf_set, ofI_set, allU8_set, h1, h2l, h2m, h2n, h3, h3_, h18, h18_, h53, h54, h54_]) (by simp [-List.reduceReplicate, sOf_set, ofI_set, allU8_set, h1, h2l, h2m, h2n, h3, h3_, h18, h18_, h53, h54, h54_]) (by simp) ?_
        by_cases h91 : v39 < 8
        · replace hF := ite_t h91 hF
          have h91_ := h91
          try simp at h91_
          refine AW.condT (by decide) (by first | (simp [-List.reduceReplicate, sOf_set, ofI_set, allU8_set, h1, h2l, h2m, h2n, h3, h3_, h18, h18_, h53, h54, h54_, h91, h91_]; done) | (simp [-List.reduceReplicate, sOf_set, ofI_set, allU8_set, h1, h2l, h2m, h2n, h3, h3_, h18, h18_, h53, h54, h54_, h91, h91_]; omega)) ?_
          refine AW.skip ?_
          refine hK714 _ _ _ ?_
          refine AW.seq fun K717 hK717 => ?_
          refine AW.block ?_
          refine AW.region mixed [] [none, none, none, none, none, none, none, none, none, none, none] (by kernel_rfl) fun G718 R718 hG718 hR718 => ?_
          obtain ⟨⟨h92, h93⟩, hF⟩ := chk_elim hF
          have h93_ := ne_of_lt h93
          obtain ⟨v41, h94, h95, h96, hF⟩ := idx_elim hF
          have h96_ := get_of h96
          try simp at h96_
          have h95_ := h95
          try simp at h95_
          obtain ⟨v42, h97, h98, h99, hF⟩ := idx_elim hF
          have h99_ := get_of h99
          try simp at h99_
          have h98_ := h98
          try simp at h98_
          obtain ⟨⟨h100, h101⟩, hF⟩ := chk_elim hF
          have h101_ := ne_of_lt h101
          try simp [-List.reduceReplicate, sOf_set, ofI_set, allU8_set, h1, h2l, h2m, h2n, h3, h3_, h18, h18_, h53, h54, h54_, h91, h91_, h92, h93, h93_, h94, h95, h96, h96_, h95_, h97, h98, h99, h99_, h98_, h100, h101, h101_]
          repeat' apply And.intro
          any_goals (first | exact hG718 _ (by kernel_rfl) | refine hR718 _ _ _ ?_ | omega | (unfold maxLen; omega) | (simp [-List.reduceReplicate, sOf_set, ofI_set, allU8_set, h1, h2l, h2m, h2n, h3, h3_, h18, h18_, h53, h54, h54_, h91, h91_, h92, h93, h93_, h94, h95, h96, h96_, h95_, h97, h98, h99, h99_, h98_, h100, h101, h101_]; done) | (simp [-List.reduceReplicate, sOf_set, ofI_set, allU8_set, h1, h2l, h2m, h2n, h3, h3_, h18, h18_, h53, h54, h54_, h91, h91_, h92, h93, h93_, h94, h95, h96, h96_, h95_, h97, h98, h99, h99_, h98_, h100, h101, h101_]; omega))
          refine hK717 _ _ _ ?_
          refine AW.wk [(0, AV.lst false false (List.map (AV.int .u32) v0)), (12, AV.slc 0 0 1 ((v40.set (v39).toNat (IntKind.wrap .u32 (v41 + v42))).length) false), (18, AV.int .i64 v39)] [(0, .grow (List.map (AV.int .u32) (v40.set (v39).toNat (IntKind.wrap .u32 (v41 + v42)))))] 1 (by simp [-List.reduceReplicate, sOf_set, ofI_set, allU8_set, h1, h2l, h2m, h2n, h3, h3_, h18, h18_, h53, h54, h54_, h91, h91_, h92, h93, h93_, h94, h95, h96, h96_, h95_, h97, h98, h99, h99_, h98_, h100, h101, h101_]) (by simp [-List.reduceReplicate, sOf_set, ofI_set, allU8_set, h1, h2l, h2m, h2n, h3, h3_, h18, h18_, h53, h54, h54_, h91, h91_, h92, h93, h93_, h94, h95, h96, h96_, h95_, h97, h98, h99, h99_, h98_, h100, h101, h101_]) (by simp) ?_
          refine AW.region mixed [] [none, none, none] (by kernel_rfl) fun G719 R719 hG719 hR719 => ?_
          try simp [-List.reduceReplicate, sOf_set, ofI_set, allU8_set, h1, h2l, h2m, h2n, h3, h3_, h18, h18_, h53, h54, h54_, h91, h91_, h92, h93, h93_, h94, h95, h96, h96_, h95_, h97, h98, h99, h99_, h98_, h100, h101, h101_]
          repeat' apply And.intro
          any_goals (first | exact hG719 _ (by kernel_rfl) | refine hR719 _ _ _ ?_ | omega | (unfold maxLen; omega) | (simp [-List.reduceReplicate, sOf_set, ofI_set, allU8_set, h1, h2l, h2m, h2n, h3, h3_, h18, h18_, h53, h54, h54_, h91, h91_, h92, h93, h93_, h94, h95, h96, h96_, h95_, h97, h98, h99, h99_, h98_, h100, h101, h101_]; done) | (simp [-List.reduceReplicate, sOf_set, ofI_set, allU8_set, h1, h2l, h2m, h2n, h3, h3_, h18, h18_, h53, h54, h54_, h91, h91_, h92, h93, h93_, h94, h95, h96, h96_, h95_, h97, h98, h99, h99_, h98_, h100, h101, h101_]; omega))
          refine hK712 _ _ _ ?_
          refine Can.weak [(0, AV.lst false false (List.map (AV.int .u32) v0)), (12, AV.slc 0 0 1 ((v40.set (v39).toNat (IntKind.wrap .u32 (v41 + v42))).length) false), (18, AV.int .i64 (IntKind.wrap .i64 (v39 + 1)))] [(0, .grow (List.map (AV.int .u32) (v40.set (v39).toNat (IntKind.wrap .u32 (v41 + v42)))))] 1 (by simp [-List.reduceReplicate, sOf_set, ofI_set, allU8_set, h1, h2l, h2m, h2n, h3, h3_, h18, h18_, h53, h54, h54_, h91, h91_, h92, h93, h93_, h94, h95, h96, h96_, h95_, h97, h98, h99, h99_, h98_, h100, h101, h101_]) (by simp [-List.reduceReplicate, sOf_set, ofI_set, allU8_set, h1, h2l, h2m, h2n, h3, h3_, h18, h18_, h53, h54, h54_, h91, h91_, h92, h93, h93_, h94, h95, h96, h96_, h95_, h97, h98, h99, h99_, h98_, h100, h101, h101_]) (by simp) ?_
          exact Can.next (k' := n4) ((IntKind.wrap .i64 (v39 + 1), v40.set (v39).toNat (IntKind.wrap .u32 (v41 + v42)))) (by omega) hF (by simp [-List.reduceReplicate, sOf_set, ofI_set, allU8_set, h1, h2l, h2m, h2n, h3, h3_, h18, h18_, h53, h54, h54_, h91, h91_, h92, h93, h93_, h94, h95, h96, h96_, h95_, h97, h98, h99, h99_, h98_, h100, h101, h101_]) (by simp [-List.reduceReplicate, sOf_set, ofI_set, allU8_set, h1, h2l, h2m, h2n, h3, h3_, h18, h18_, h53, h54, h54_, h91, h91_, h92, h93, h93_, h94, h95, h96, h96_, h95_, h97, h98, h99, h99_, h98_, h100, h101, h101_]) (by simp)
        · replace hF := ite_f h91 hF
          have h91_ := h91
          try simp at h91_
          refine AW.condF (by decide) (by first | (simp [-List.reduceReplicate, sOf_set, ofI_set, allU8_set, h1, h2l, h2m, h2n, h3, h3_, h18, h18_, h53, h54, h54_, h91, h91_]; done) | (simp [-List.reduceReplicate, sOf_set, ofI_set, allU8_set, h1, h2l, h2m, h2n, h3, h3_, h18, h18_, h53, h54, h54_, h91, h91_]; omega)) ?_
          refine AW.exit ?_
          try simp
          refine hK689 _ _ _ ?_
          refine AW.seqR mixed [] [none, none] (by kernel_rfl) fun G720 R720 hG720 hR720 => ?_
          try simp [-List.reduceReplicate, sOf_set, ofI_set, allU8_set, h1, h2l, h2m, h2n, h3, h3_, h18, h18_, h53, h54, h54_, h91, h91_]
          repeat' apply And.intro
          any_goals (first | exact hG720 _ (by kernel_rfl) | refine hR720 _ _ _ ?_ | omega | (unfold maxLen; omega) | (simp [-List.reduceReplicate, sOf_set, ofI_set, allU8_set, h1, h2l, h2m, h2n, h3, h3_, h18, h18_, h53, h54, h54_, h91, h91_]; done) | (simp [-List.reduceReplicate, sOf_set, ofI_set, allU8_set, h1, h2l, h2m, h2n, h3, h3_, h18, h18_, h53, h54, h54_, h91, h91_]; omega))
          refine AW.wk [(6, AV.slc 0 0 1 v40.length false)] [(0, .grow (List.map (AV.int .u32) v40))] 1 (by simp [-List.reduceReplicate, sOf_set, ofI_set, allU8_set, h1, h2l, h2m, h2n, h3, h3_, h18, h18_, h53, h54, h54_, h91, h91_]) (by simp [-List.reduceReplicate, sOf_set, ofI_set, allU8_set, h1, h2l, h2m, h2n, h3, h3_, h18, h18_, h53, h54, h54_, h91, h91_]) (by simp) ?_
          simp only [Option.some.injEq] at hF
          subst hF
          refine AW.ret (hQ _ _ _ ?_ (matchO_0 ?_)).1
          · simp [Try.f61, h1, h2l, h2m, h2n, h3, h3_, h18, h18_, h53, h54, h54_, h91, h91_]
          · simp [h1, h2l, h2m, h2n, h3, h3_, h18, h18_, h53, h54, h54_, h91, h91_]
end Go.TF
