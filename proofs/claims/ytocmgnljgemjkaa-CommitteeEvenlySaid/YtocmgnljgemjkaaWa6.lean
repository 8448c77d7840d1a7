/- Walks: the Go text computes the Lean functions (printed by a program of our own). -/
import Derived.Test.YtocmgnljgemjkaaPu
import Derived.Test.YtocmgnljgemjkaaAbsT
import Derived.Test.YtocmgnljgemjkaaWa0
import Derived.Test.YtocmgnljgemjkaaWa2
import Derived.Test.YtocmgnljgemjkaaWa4
import Derived.Test.YtocmgnljgemjkaaWa5
set_option linter.unusedVariables false
set_option linter.unusedSimpArgs false
set_option maxRecDepth 100000
namespace Go.TF
open Go Go.Abs Go.Proofs Go.Proofs.YtocmgnljgemjkaaT
set_option maxHeartbeats 4000000 in
theorem w_made_Dice_Bytes (k : Nat) (v0 : (List Int)) (v1 : Int) (v2 : Int) (v3 : (List Int)) (v4 : Int) (hF : made_Dice_Bytes k v0 v1 v2 = some (v3, v4)) :
    FCall Try.prog 36 [AV.ptr 0 0, AV.int .i64 v2] [.cells [AV.lst false false (List.map (AV.int .i64) v0), AV.int .i64 v1]] (AV.slc 1 0 1 v3.length false) [some (.cells [AV.lst false false (List.map (AV.int .i64) v0), AV.int .i64 v4]), some (.grow (List.map (AV.int .u8) v3))] := by
  unfold made_Dice_Bytes at hF
  refine FCall.enter Try.func36 rfl (by simp) (by decide) (by simp) (by simp) (by simp) (by simp) (by simp) ?_
  intro c0 w0 Q h0 hQ
  refine AW.wk [(0, AV.ptr 0 0), (1, AV.int .i64 v2)] [(0, .cells [AV.lst false false (List.map (AV.int .i64) v0), AV.int .i64 v1])] 1 (by simp) (by simp) (by simp) ?_
  refine AW.seqR mixed [] [none] (by kernel_rfl) fun G51 R51 hG51 hR51 => ?_
  try simp
  repeat' apply And.intro
  any_goals (first | exact hG51 _ (by kernel_rfl) | refine hR51 _ _ _ ?_ | omega | (unfold maxLen; omega) | (simp; done) | (simp; omega))
  refine AW.wk [(0, AV.ptr 0 0), (1, AV.int .i64 v2)] [(0, .cells [AV.lst false false (List.map (AV.int .i64) v0), AV.int .i64 v1])] 1 (by simp) (by simp) (by simp) ?_
  refine AW.seqR mixed [] [none] (by kernel_rfl) fun G52 R52 hG52 hR52 => ?_
  try simp
  repeat' apply And.intro
  any_goals (first | exact hG52 _ (by kernel_rfl) | refine hR52 _ _ _ ?_ | omega | (unfold maxLen; omega) | (simp; done) | (simp; omega))
  refine AW.wk [(0, AV.ptr 0 0), (1, AV.int .i64 v2), (5, AV.lst true true (List.map (AV.int .u8) ([] : List Int)))] [(0, .cells [AV.lst false false (List.map (AV.int .i64) v0), AV.int .i64 v1])] 1 (by simp) (by simp) (by simp) ?_
  refine AW.seq fun K76 hK76 => ?_
  refine AW.seqR mixed [] [none, none, none, none, none] (by kernel_rfl) fun G77 R77 hG77 hR77 => ?_
  try simp
  repeat' apply And.intro
  try any_goals (first | omega | (unfold maxLen; omega) | (simp; done))
  obtain ⟨v5, v6, h1, hF⟩ := bnd2_elim hF
  refine aCall_l (w_made_Dice_Next k _ _ _ _ _ h1) (by simp) [0] [] [0] rfl (.cons (.same (by simp)) (.cons (.same (by simp)) .nil)) (by simp) (by decide) (by simp) (by simp) (.inl rfl) (by simp) (by simp) ?_
  try simp
  repeat' apply And.intro
  any_goals (first | exact hG77 _ (by kernel_rfl) | refine hR77 _ _ _ ?_ | omega | (unfold maxLen; omega) | (simp; done) | (simp; omega))
  refine AW.wk [(0, AV.ptr 0 0), (5, AV.lst true true (List.map (AV.int .u8) ([] : List Int))), (6, AV.int .i64 v5)] [(0, .cells [AV.lst false false (List.map (AV.int .i64) v0), AV.int .i64 v6])] 1 (by simp) (by simp) (by simp) ?_
  refine AW.block ?_
  refine AW.own' 5 1 true (by simp) (by decide) ?_
  refine AW.loopF (α := (Int × Int × (List Int))) (fun n (v7, v8, v9) => made_Dice_Bytes.L1 k v0 n v7 v8 v9 = some (v3, v4)) (fun (v7, v8, v9) => [(0, AV.ptr 0 0), (5, AV.slc 1 0 1 v9.length false), (6, AV.int .i64 v7)]) (fun (v7, v8, v9) => [(0, .cells [AV.lst false false (List.map (AV.int .i64) v0), AV.int .i64 v8]), (1, .grow (List.map (AV.int .u8) v9))]) 2 k ((v5, v6, ([] : List Int))) hF (by simp) (by simp) (by simp) ?_
  rintro (_|n1) ⟨v7, v8, v9⟩ hF K92 hK92
  · try dsimp only at hF
    rw [made_Dice_Bytes.L1] at hF; cases hF
  try dsimp only at hF
  rw [made_Dice_Bytes.L1] at hF
  refine AW.seq fun K94 hK94 => ?_
  refine AW.seqR mixed [] [none, none] (by kernel_rfl) fun G95 R95 hG95 hR95 => ?_
  try simp
  repeat' apply And.intro
  any_goals (first | exact hG95 _ (by kernel_rfl) | refine hR95 _ _ _ ?_ | omega | (unfold maxLen; omega) | (simp; done) | (simp; omega))
  refine AW.wk [(0, AV.ptr 0 0), (5, AV.slc 1 0 1 v9.length false), (6, AV.int .i64 v7), (12, AV.bool (decide (0 < v7)))] [(0, .cells [AV.lst false false (List.map (AV.int .i64) v0), AV.int .i64 v8]), (1, .grow (List.map (AV.int .u8) v9))] 2 (by simp) (by simp) (by simp) ?_
  by_cases h2 : 0 < v7
  · replace hF := ite_t h2 hF
    have h2_ := h2
    try simp at h2_
    refine AW.condT (by decide) (by first | (simp [h2, h2_]; done) | (simp [h2, h2_]; omega)) ?_
    refine AW.skip ?_
    refine hK94 _ _ _ ?_
    refine AW.seq fun K97 hK97 => ?_
    refine AW.block ?_
    refine AW.region mixed [] [none, none, none, none, none, none, none, none] (by kernel_rfl) fun G98 R98 hG98 hR98 => ?_
    try simp [h2, h2_]
    repeat' apply And.intro
    try any_goals (first | omega | (unfold maxLen; omega) | (simp [h2, h2_]; done))
    obtain ⟨v10, v11, h3, hF⟩ := bnd2_elim hF
    refine aCall_l (w_made_Dice_Of k _ _ _ _ _ h3) (by simp) [0] [] [0] rfl (.cons (.same (by simp [h2, h2_])) (.cons (Coe.fl (by simp [h2, h2_])) .nil)) (by simp [h2, h2_]) (by decide) (by simp) (by simp) (.inl rfl) (by simp) (by simp) ?_
    obtain ⟨h4, hF⟩ := chk_elim hF
    have h4_ := h4
    try simp at h4_
    try simp [h2, h2_, h4]
    repeat' apply And.intro
    any_goals (first | exact hG98 _ (by kernel_rfl) | refine hR98 _ _ _ ?_ | omega | (unfold maxLen; omega) | (simp [h2, h2_, h4]; done) | (simp [h2, h2_, h4]; omega))
    refine hK97 _ _ _ ?_
    refine AW.wk [(0, AV.ptr 0 0), (5, AV.slc 2 0 1 ((v9 ++ ([IntKind.wrap .u8 v10] : List Int)).length) false), (6, AV.int .i64 v7)] [(0, .cells [AV.lst false false (List.map (AV.int .i64) v0), AV.int .i64 v11]), (2, .grow (List.map (AV.int .u8) (v9 ++ ([IntKind.wrap .u8 v10] : List Int))))] 3 (by simp [h2, h2_, h4]) (by simp [h2, h2_, h4]) (by simp) ?_
    refine AW.region mixed [] [none, none, none] (by kernel_rfl) fun G99 R99 hG99 hR99 => ?_
    try simp [h2, h2_, h4]
    repeat' apply And.intro
    any_goals (first | exact hG99 _ (by kernel_rfl) | refine hR99 _ _ _ ?_ | omega | (unfold maxLen; omega) | (simp [h2, h2_, h4]; done) | (simp [h2, h2_, h4]; omega))
    refine hK92 _ _ _ ?_
    refine Can.weak [(0, AV.ptr 0 0), (5, AV.slc 2 0 1 ((v9 ++ ([IntKind.wrap .u8 v10] : List Int)).length) false), (6, AV.int .i64 (IntKind.wrap .i64 (v7 - 1)))] [(0, .cells [AV.lst false false (List.map (AV.int .i64) v0), AV.int .i64 v11]), (2, .grow (List.map (AV.int .u8) (v9 ++ ([IntKind.wrap .u8 v10] : List Int))))] 3 (by simp [h2, h2_, h4]) (by simp [h2, h2_, h4]) (by simp) ?_
    refine Can.ren (m := 1) h0 [(0, 0), (1, 2)] [(0, AV.ptr 0 0), (5, AV.slc 1 0 1 ((v9 ++ ([IntKind.wrap .u8 v10] : List Int)).length) false), (6, AV.int .i64 (IntKind.wrap .i64 (v7 - 1)))] [(0, .cells [AV.lst false false (List.map (AV.int .i64) v0), AV.int .i64 v11]), (1, .grow (List.map (AV.int .u8) (v9 ++ ([IntKind.wrap .u8 v10] : List Int))))] 2 (by decide) (by decide) (by decide) rfl (by simp [h2, h2_, h4]) (by simp [h2, h2_, h4]) ?_
    exact Can.next (k' := n1) ((IntKind.wrap .i64 (v7 - 1), v11, v9 ++ ([IntKind.wrap .u8 v10] : List Int))) (by omega) hF (by simp [h2, h2_, h4]) (by simp [h2, h2_, h4]) (by simp)
  · replace hF := ite_f h2 hF
    have h2_ := h2
    try simp at h2_
    refine AW.condF (by decide) (by first | (simp [h2, h2_]; done) | (simp [h2, h2_]; omega)) ?_
    refine AW.exit ?_
    try simp
    refine hK76 _ _ _ ?_
    refine AW.seqR mixed [] [none, none] (by kernel_rfl) fun G100 R100 hG100 hR100 => ?_
    try simp [h2, h2_]
    repeat' apply And.intro
    any_goals (first | exact hG100 _ (by kernel_rfl) | refine hR100 _ _ _ ?_ | omega | (unfold maxLen; omega) | (simp [h2, h2_]; done) | (simp [h2, h2_]; omega))
    refine AW.wk [(4, AV.slc 1 0 1 v9.length false)] [(0, .cells [AV.lst false false (List.map (AV.int .i64) v0), AV.int .i64 v8]), (1, .grow (List.map (AV.int .u8) v9))] 2 (by simp [h2, h2_]) (by simp [h2, h2_]) (by simp) ?_
    simp only [Option.some.injEq, Prod.mk.injEq] at hF
    obtain ⟨e0, e1⟩ := hF
    subst e0 e1
    refine AW.ret (hQ _ _ _ ?_ (matchO_0 ?_)).1
    · simp [Try.f36, h2, h2_]
    · simp [h2, h2_]
set_option maxHeartbeats 4000000 in
theorem w_law02_sameInts (k : Nat) (v0 : (List Int)) (v1 : (List Int)) (v2 : Bool) (hF : law02_sameInts k v0 v1 = some v2) :
    FCall Try.prog 37 [AV.lst false false (List.map (AV.int .i64) v0), AV.lst false false (List.map (AV.int .i64) v1)] [] (AV.bool v2) [] := by
  unfold law02_sameInts at hF
  refine FCall.enter Try.func37 rfl (by simp) (by decide) (by simp) (by simp) (by simp) (by simp) (by simp) ?_
  intro c0 w0 Q h0 hQ
  refine AW.wk [(0, AV.lst false false (List.map (AV.int .i64) v0)), (1, AV.lst false false (List.map (AV.int .i64) v1))] [] 0 (by simp) (by simp) (by simp) ?_
  refine AW.seqR mixed [] [none] (by kernel_rfl) fun G67 R67 hG67 hR67 => ?_
  try simp
  repeat' apply And.intro
  any_goals (first | exact hG67 _ (by kernel_rfl) | refine hR67 _ _ _ ?_ | omega | (unfold maxLen; omega) | (simp; done) | (simp; omega))
  refine AW.wk [(0, AV.lst false false (List.map (AV.int .i64) v0)), (1, AV.lst false false (List.map (AV.int .i64) v1))] [] 0 (by simp) (by simp) (by simp) ?_
  refine AW.seq fun K70 hK70 => ?_
  refine AW.seqR mixed [] [none, none, none, none, none] (by kernel_rfl) fun G71 R71 hG71 hR71 => ?_
  try simp
  repeat' apply And.intro
  any_goals (first | exact hG71 _ (by kernel_rfl) | refine hR71 _ _ _ ?_ | omega | (unfold maxLen; omega) | (simp; done) | (simp; omega))
  refine AW.wk [(0, AV.lst false false (List.map (AV.int .i64) v0)), (1, AV.lst false false (List.map (AV.int .i64) v1)), (10, AV.bool ((v0.length : Int) != (v1.length : Int)))] [] 0 (by simp) (by simp) (by simp) ?_
  by_cases h1 : (v0.length : Int) ≠ (v1.length : Int)
  · replace hF := ite_t h1 hF
    have h1_ := eqb_f h1
    have h1__ := neb_t h1
    refine AW.condT (by decide) (by first | (simp [h1, h1_, h1__]; done) | (simp [h1, h1_, h1__]; omega)) ?_
    refine AW.seqR mixed [] [none] (by kernel_rfl) fun G72 R72 hG72 hR72 => ?_
    try simp [h1, h1_, h1__]
    repeat' apply And.intro
    any_goals (first | exact hG72 _ (by kernel_rfl) | refine hR72 _ _ _ ?_ | omega | (unfold maxLen; omega) | (simp [h1, h1_, h1__]; done) | (simp [h1, h1_, h1__]; omega))
    refine AW.wk [(4, AV.bool false)] [] 0 (by simp [h1, h1_, h1__]) (by simp [h1, h1_, h1__]) (by simp) ?_
    simp only [Option.some.injEq] at hF
    subst hF
    refine AW.ret (hQ _ _ _ ?_ (matchO_0 ?_)).1
    · simp [Try.f37, h1, h1_, h1__]
    · simp [h1, h1_, h1__]
  · replace hF := ite_f h1 hF
    have h1q : (v0.length : Int) = (v1.length : Int) := Classical.not_not.1 h1
    have h1_ := eqb_t h1q
    have h1__ := neb_f h1q
    refine AW.condF (by decide) (by first | (simp [h1_, h1__]; done) | (simp [h1_, h1__]; omega)) ?_
    refine AW.skip ?_
    refine hK70 _ _ _ ?_
    refine AW.seq fun K102 hK102 => ?_
    refine AW.seqR mixed [] [none] (by kernel_rfl) fun G103 R103 hG103 hR103 => ?_
    try simp [h1_, h1__]
    repeat' apply And.intro
    any_goals (first | exact hG103 _ (by kernel_rfl) | refine hR103 _ _ _ ?_ | omega | (unfold maxLen; omega) | (simp [h1_, h1__]; done) | (simp [h1_, h1__]; omega))
    refine AW.wk [(0, AV.lst false false (List.map (AV.int .i64) v0)), (1, AV.lst false false (List.map (AV.int .i64) v1)), (5, AV.int .i64 0)] [] 0 (by simp [h1_, h1__]) (by simp [h1_, h1__]) (by simp) ?_
    refine AW.block ?_
    refine AW.loopF (α := Int) (fun n v3 => law02_sameInts.L1 k v0 v1 n v3 = some v2) (fun v3 => [(0, AV.lst false false (List.map (AV.int .i64) v0)), (1, AV.lst false false (List.map (AV.int .i64) v1)), (5, AV.int .i64 v3)]) (fun v3 => []) 0 k (0) hF (by simp [h1_, h1__]) (by simp [h1_, h1__]) (by simp) ?_
    rintro (_|n1) v3 hF K122 hK122
    · try dsimp only at hF
      rw [law02_sameInts.L1] at hF; cases hF
    try dsimp only at hF
    rw [law02_sameInts.L1] at hF
    refine AW.seq fun K124 hK124 => ?_
    refine AW.seqR mixed [] [none, none, none, none] (by kernel_rfl) fun G125 R125 hG125 hR125 => ?_
    try simp [h1_, h1__]
    repeat' apply And.intro
    any_goals (first | exact hG125 _ (by kernel_rfl) | refine hR125 _ _ _ ?_ | omega | (unfold maxLen; omega) | (simp [h1_, h1__]; done) | (simp [h1_, h1__]; omega))
    refine AW.wk [(0, AV.lst false false (List.map (AV.int .i64) v0)), (1, AV.lst false false (List.map (AV.int .i64) v1)), (5, AV.int .i64 v3), (14, AV.bool (decide (v3 < (v0.length : Int))))] [] 0 (by simp [h1_, h1__]) (by simp [h1_, h1__]) (by simp) ?_
    by_cases h2 : v3 < (v0.length : Int)
    · replace hF := ite_t h2 hF
      have h2_ := h2
      try simp at h2_
      refine AW.condT (by decide) (by first | (simp [h1_, h1__, h2, h2_]; done) | (simp [h1_, h1__, h2, h2_]; omega)) ?_
      refine AW.skip ?_
      refine hK124 _ _ _ ?_
      refine AW.seq fun K128 hK128 => ?_
      refine AW.block ?_
      refine AW.seqR mixed [] [none, none, none, none, none, none, none, none, none] (by kernel_rfl) fun G129 R129 hG129 hR129 => ?_
      obtain ⟨v4, h3, h4, h5, hF⟩ := idx_elim hF
      have h5_ := get_of h5
      try simp at h5_
      have h4_ := h4
      try simp at h4_
      obtain ⟨v5, h6, h7, h8, hF⟩ := idx_elim hF
      have h8_ := get_of h8
      try simp at h8_
      have h7_ := h7
      try simp at h7_
      try simp [h1_, h1__, h2, h2_, h3, h4, h5, h5_, h4_, h6, h7, h8, h8_, h7_]
      repeat' apply And.intro
      any_goals (first | exact hG129 _ (by kernel_rfl) | refine hR129 _ _ _ ?_ | omega | (unfold maxLen; omega) | (simp [h1_, h1__, h2, h2_, h3, h4, h5, h5_, h4_, h6, h7, h8, h8_, h7_]; done) | (simp [h1_, h1__, h2, h2_, h3, h4, h5, h5_, h4_, h6, h7, h8, h8_, h7_]; omega))
      refine AW.wk [(0, AV.lst false false (List.map (AV.int .i64) v0)), (1, AV.lst false false (List.map (AV.int .i64) v1)), (5, AV.int .i64 v3), (25, AV.bool (v4 != v5))] [] 0 (by simp [h1_, h1__, h2, h2_, h3, h4, h5, h5_, h4_, h6, h7, h8, h8_, h7_]) (by simp [h1_, h1__, h2, h2_, h3, h4, h5, h5_, h4_, h6, h7, h8, h8_, h7_]) (by simp) ?_
      by_cases h9 : v4 ≠ v5
      · replace hF := ite_t h9 hF
        have h9_ := eqb_f h9
        have h9__ := neb_t h9
        refine AW.condT (by decide) (by first | (simp [h1_, h1__, h2, h2_, h3, h4, h5, h5_, h4_, h6, h7, h8, h8_, h7_, h9, h9_, h9__]; done) | (simp [h1_, h1__, h2, h2_, h3, h4, h5, h5_, h4_, h6, h7, h8, h8_, h7_, h9, h9_, h9__]; omega)) ?_
        refine AW.seqR mixed [] [none] (by kernel_rfl) fun G130 R130 hG130 hR130 => ?_
        try simp [h1_, h1__, h2, h2_, h3, h4, h5, h5_, h4_, h6, h7, h8, h8_, h7_, h9, h9_, h9__]
        repeat' apply And.intro
        any_goals (first | exact hG130 _ (by kernel_rfl) | refine hR130 _ _ _ ?_ | omega | (unfold maxLen; omega) | (simp [h1_, h1__, h2, h2_, h3, h4, h5, h5_, h4_, h6, h7, h8, h8_, h7_, h9, h9_, h9__]; done) | (simp [h1_, h1__, h2, h2_, h3, h4, h5, h5_, h4_, h6, h7, h8, h8_, h7_, h9, h9_, h9__]; omega))
        refine AW.wk [(4, AV.bool false)] [] 0 (by simp [h1_, h1__, h2, h2_, h3, h4, h5, h5_, h4_, h6, h7, h8, h8_, h7_, h9, h9_, h9__]) (by simp [h1_, h1__, h2, h2_, h3, h4, h5, h5_, h4_, h6, h7, h8, h8_, h7_, h9, h9_, h9__]) (by simp) ?_
        simp only [Option.some.injEq] at hF
        subst hF
        refine AW.ret (hQ _ _ _ ?_ (matchO_0 ?_)).1
        · simp [Try.f37, h1_, h1__, h2, h2_, h3, h4, h5, h5_, h4_, h6, h7, h8, h8_, h7_, h9, h9_, h9__]
        · simp [h1_, h1__, h2, h2_, h3, h4, h5, h5_, h4_, h6, h7, h8, h8_, h7_, h9, h9_, h9__]
      · replace hF := ite_f h9 hF
        have h9q : v4 = v5 := Classical.not_not.1 h9
        have h9_ := eqb_t h9q
        have h9__ := neb_f h9q
        refine AW.condF (by decide) (by first | (simp [h1_, h1__, h2, h2_, h3, h4, h5, h5_, h4_, h6, h7, h8, h8_, h7_, h9_, h9__]; done) | (simp [h1_, h1__, h2, h2_, h3, h4, h5, h5_, h4_, h6, h7, h8, h8_, h7_, h9_, h9__]; omega)) ?_
        refine AW.skip ?_
        refine hK128 _ _ _ ?_
        refine AW.region mixed [] [none, none, none] (by kernel_rfl) fun G131 R131 hG131 hR131 => ?_
        try simp [h1_, h1__, h2, h2_, h3, h4, h5, h5_, h4_, h6, h7, h8, h8_, h7_, h9_, h9__]
        repeat' apply And.intro
        any_goals (first | exact hG131 _ (by kernel_rfl) | refine hR131 _ _ _ ?_ | omega | (unfold maxLen; omega) | (simp [h1_, h1__, h2, h2_, h3, h4, h5, h5_, h4_, h6, h7, h8, h8_, h7_, h9_, h9__]; done) | (simp [h1_, h1__, h2, h2_, h3, h4, h5, h5_, h4_, h6, h7, h8, h8_, h7_, h9_, h9__]; omega))
        refine hK122 _ _ _ ?_
        refine Can.weak [(0, AV.lst false false (List.map (AV.int .i64) v0)), (1, AV.lst false false (List.map (AV.int .i64) v1)), (5, AV.int .i64 (IntKind.wrap .i64 (v3 + 1)))] [] 0 (by simp [h1_, h1__, h2, h2_, h3, h4, h5, h5_, h4_, h6, h7, h8, h8_, h7_, h9_, h9__]) (by simp [h1_, h1__, h2, h2_, h3, h4, h5, h5_, h4_, h6, h7, h8, h8_, h7_, h9_, h9__]) (by simp) ?_
        exact Can.next (k' := n1) (IntKind.wrap .i64 (v3 + 1)) (by omega) hF (by simp [h1_, h1__, h2, h2_, h3, h4, h5, h5_, h4_, h6, h7, h8, h8_, h7_, h9_, h9__]) (by simp [h1_, h1__, h2, h2_, h3, h4, h5, h5_, h4_, h6, h7, h8, h8_, h7_, h9_, h9__]) (by simp)
    · replace hF := ite_f h2 hF
      have h2_ := h2
      try simp at h2_
      refine AW.condF (by decide) (by first | (simp [h1_, h1__, h2, h2_]; done) | (simp [h1_, h1__, h2, h2_]; omega)) ?_
      refine AW.exit ?_
      try simp
      refine hK102 _ _ _ ?_
      refine AW.seqR mixed [] [none] (by kernel_rfl) fun G132 R132 hG132 hR132 => ?_
      try simp [h1_, h1__, h2, h2_]
      repeat' apply And.intro
      any_goals (first | exact hG132 _ (by kernel_rfl) | refine hR132 _ _ _ ?_ | omega | (unfold maxLen; omega) | (simp [h1_, h1__, h2, h2_]; done) | (simp [h1_, h1__, h2, h2_]; omega))
      refine AW.wk [(4, AV.bool true)] [] 0 (by simp [h1_, h1__, h2, h2_]) (by simp [h1_, h1__, h2, h2_]) (by simp) ?_
      simp only [Option.some.injEq] at hF
      subst hF
      refine AW.ret (hQ _ _ _ ?_ (matchO_0 ?_)).1
      · simp [Try.f37, h1_, h1__, h2, h2_]
      · simp [h1_, h1__, h2, h2_]
set_option maxHeartbeats 4000000 in
theorem w_law02_WireApart (k : Nat) (v0 : (List Int)) (v1 : (List Int)) (v2 : Bool) (hF : law02_WireApart k v0 v1 = some v2) :
    FCall Try.prog 5 [AV.lst false false (List.map (AV.int .i64) v0), AV.lst false false (List.map (AV.int .i64) v1)] [] (AV.bool v2) [] := by
  unfold law02_WireApart at hF
  refine FCall.enter Try.func5 rfl (by simp) (by decide) (by simp) (by simp) (by simp) (by simp) (by simp) ?_
  intro c0 w0 Q h0 hQ
  refine AW.wk [(0, AV.lst false false (List.map (AV.int .i64) v0)), (1, AV.lst false false (List.map (AV.int .i64) v1))] [] 0 (by simp) (by simp) (by simp) ?_
  refine AW.seqR mixed [] [none] (by kernel_rfl) fun G15 R15 hG15 hR15 => ?_
  try simp
  repeat' apply And.intro
  any_goals (first | exact hG15 _ (by kernel_rfl) | refine hR15 _ _ _ ?_ | omega | (unfold maxLen; omega) | (simp; done) | (simp; omega))
  refine AW.wk [(0, AV.lst false false (List.map (AV.int .i64) v0)), (1, AV.lst false false (List.map (AV.int .i64) v1))] [] 0 (by simp) (by simp) (by simp) ?_
  refine AW.seq fun K19 hK19 => ?_
  refine AW.seqR mixed [] [none, none, none, none, some (18, false), some (18, false), some (18, false), none] (by kernel_rfl) fun G20 R20 hG20 hR20 => ?_
  try simp
  repeat' apply And.intro
  try any_goals (first | omega | (unfold maxLen; omega) | (simp; done))
  obtain ⟨v3, h1, hF⟩ := bnd1_elim hF
  refine aCall_l (w_made_Light k _ _ h1) (by simp) [] [] [] rfl (.cons (.same (by simp)) .nil) (by simp) (by decide) (by simp) (by simp) (.inl rfl) (by simp) (by simp) ?_
  by_cases h2 : (!v3) = true
  · replace hF := ite_t h2 hF
    have h2_ := h2
    try simp at h2_
    try simp [h2, h2_]
    repeat' apply And.intro
    any_goals (first | exact hG20 _ (by kernel_rfl) | refine hR20 _ _ _ ?_ | omega | (unfold maxLen; omega) | (simp [h2, h2_]; done) | (simp [h2, h2_]; omega))
    refine AW.wk [(0, AV.lst false false (List.map (AV.int .i64) v0)), (1, AV.lst false false (List.map (AV.int .i64) v1)), (22, AV.bool true)] [] 0 (by simp [h2, h2_]) (by simp [h2, h2_]) (by simp) ?_
    refine AW.condT (by decide) (by simp [h2, h2_]) ?_
    refine AW.seqR mixed [] [none, none] (by kernel_rfl) fun G21 R21 hG21 hR21 => ?_
    try simp [h2, h2_]
    repeat' apply And.intro
    try any_goals (first | omega | (unfold maxLen; omega) | (simp [h2, h2_]; done))
    obtain ⟨v4, h3, hF⟩ := bnd1_elim hF
    refine aCall_l (w_law02_awake k _ h3) (by simp) [] [] [] rfl .nil (by simp [h2, h2_]) (by decide) (by simp) (by simp) (.inl rfl) (by simp) (by simp) ?_
    try simp [h2, h2_]
    repeat' apply And.intro
    any_goals (first | exact hG21 _ (by kernel_rfl) | refine hR21 _ _ _ ?_ | omega | (unfold maxLen; omega) | (simp [h2, h2_]; done) | (simp [h2, h2_]; omega))
    refine AW.wk [(4, AV.bool v4)] [] 0 (by simp [h2, h2_]) (by simp [h2, h2_]) (by simp) ?_
    simp only [Option.some.injEq] at hF
    subst hF
    refine AW.ret (hQ _ _ _ ?_ (matchO_0 ?_)).1
    · simp [Try.f5, h2, h2_]
    · simp [h2, h2_]
  · replace hF := ite_f h2 hF
    have h2_ := h2
    try simp at h2_
    try simp [h2, h2_]
    repeat' apply And.intro
    try any_goals (first | omega | (unfold maxLen; omega) | (simp [h2, h2_]; done))
    obtain ⟨v5, h4, hF⟩ := bnd1_elim hF
    refine aCall_l (w_made_Light k _ _ h4) (by simp) [] [] [] rfl (.cons (.same (by simp [h2, h2_])) .nil) (by simp [h2, h2_]) (by decide) (by simp) (by simp) (.inl rfl) (by simp) (by simp) ?_
    try simp [h2, h2_]
    repeat' apply And.intro
    any_goals (first | exact hG20 _ (by kernel_rfl) | refine hR20 _ _ _ ?_ | omega | (unfold maxLen; omega) | (simp [h2, h2_]; done) | (simp [h2, h2_]; omega))
    refine AW.wk [(0, AV.lst false false (List.map (AV.int .i64) v0)), (1, AV.lst false false (List.map (AV.int .i64) v1)), (22, AV.bool (!v5))] [] 0 (by simp [h2, h2_]) (by simp [h2, h2_]) (by simp) ?_
    by_cases h5 : (!v5) = true
    · replace hF := ite_t h5 hF
      have h5_ := h5
      try simp at h5_
      refine AW.condT (by decide) (by first | (simp [h2, h2_, h5, h5_]; done) | (simp [h2, h2_, h5, h5_]; omega)) ?_
      refine AW.seqR mixed [] [none, none] (by kernel_rfl) fun G22 R22 hG22 hR22 => ?_
      try simp [h2, h2_, h5, h5_]
      repeat' apply And.intro
      try any_goals (first | omega | (unfold maxLen; omega) | (simp [h2, h2_, h5, h5_]; done))
      obtain ⟨v6, h6, hF⟩ := bnd1_elim hF
      refine aCall_l (w_law02_awake k _ h6) (by simp) [] [] [] rfl .nil (by simp [h2, h2_, h5, h5_]) (by decide) (by simp) (by simp) (.inl rfl) (by simp) (by simp) ?_
      try simp [h2, h2_, h5, h5_]
      repeat' apply And.intro
      any_goals (first | exact hG22 _ (by kernel_rfl) | refine hR22 _ _ _ ?_ | omega | (unfold maxLen; omega) | (simp [h2, h2_, h5, h5_]; done) | (simp [h2, h2_, h5, h5_]; omega))
      refine AW.wk [(4, AV.bool v6)] [] 0 (by simp [h2, h2_, h5, h5_]) (by simp [h2, h2_, h5, h5_]) (by simp) ?_
      simp only [Option.some.injEq] at hF
      subst hF
      refine AW.ret (hQ _ _ _ ?_ (matchO_0 ?_)).1
      · simp [Try.f5, h2, h2_, h5, h5_]
      · simp [h2, h2_, h5, h5_]
    · replace hF := ite_f h5 hF
      have h5_ := h5
      try simp at h5_
      refine AW.condF (by decide) (by first | (simp [h2, h2_, h5, h5_]; done) | (simp [h2, h2_, h5, h5_]; omega)) ?_
      refine AW.skip ?_
      refine hK19 _ _ _ ?_
      refine AW.seqR mixed [] [none, none, none, none, none, none] (by kernel_rfl) fun G23 R23 hG23 hR23 => ?_
      try simp [h2, h2_, h5, h5_]
      repeat' apply And.intro
      try any_goals (first | omega | (unfold maxLen; omega) | (simp [h2, h2_, h5, h5_]; done))
      obtain ⟨v7, v8, h7, hF⟩ := bnd2_elim hF
      refine aCall_l (w_made_Roll k _ _ _ h7) (by simp) [] [] [] rfl (.cons (.same (by simp [h2, h2_, h5, h5_])) .nil) (by simp [h2, h2_, h5, h5_]) (by decide) (by simp) (by simp) (.inl rfl) (by simp) (by simp) ?_
      try simp [h2, h2_, h5, h5_]
      repeat' apply And.intro
      try any_goals (first | omega | (unfold maxLen; omega) | (simp [h2, h2_, h5, h5_]; done))
      obtain ⟨v9, v10, h8, hF⟩ := bnd2_elim hF
      refine aCall_l (w_made_Roll k _ _ _ h8) (by simp) [] [] [] rfl (.cons (.same (by simp [h2, h2_, h5, h5_])) .nil) (by simp [h2, h2_, h5, h5_]) (by decide) (by simp) (by simp) (.inl rfl) (by simp) (by simp) ?_
      try simp [h2, h2_, h5, h5_]
      repeat' apply And.intro
      any_goals (first | exact hG23 _ (by kernel_rfl) | refine hR23 _ _ _ ?_ | omega | (unfold maxLen; omega) | (simp [h2, h2_, h5, h5_]; done) | (simp [h2, h2_, h5, h5_]; omega))
      refine AW.wk [(5, AV.ptr 0 0), (6, AV.ptr 1 0)] [(0, .cells [AV.lst false false (List.map (AV.int .i64) v7), AV.int .i64 v8]), (1, .cells [AV.lst false false (List.map (AV.int .i64) v9), AV.int .i64 v10])] 2 (by simp [h2, h2_, h5, h5_]) (by simp [h2, h2_, h5, h5_]) (by simp) ?_
      refine AW.seqR mixed [] [none, none, none, none, none, none, none, none, none, none] (by kernel_rfl) fun G24 R24 hG24 hR24 => ?_
      try simp [h2, h2_, h5, h5_]
      repeat' apply And.intro
      try any_goals (first | omega | (unfold maxLen; omega) | (simp [h2, h2_, h5, h5_]; done))
      obtain ⟨v11, v12, h9, hF⟩ := bnd2_elim hF
      refine aCall_l (w_made_Dice_Next k _ _ _ _ _ h9) (by simp) [0] [] [0] rfl (.cons (.same (by simp [h2, h2_, h5, h5_])) (.cons (.same (by simp [h2, h2_, h5, h5_])) .nil)) (by simp [h2, h2_, h5, h5_]) (by decide) (by simp) (by simp) (.inl rfl) (by simp) (by simp) ?_
      try simp [h2, h2_, h5, h5_]
      repeat' apply And.intro
      try any_goals (first | omega | (unfold maxLen; omega) | (simp [h2, h2_, h5, h5_]; done))
      obtain ⟨v13, v14, h10, hF⟩ := bnd2_elim hF
      refine aCall_l (w_made_Dice_Bytes k _ _ _ _ _ h10) (by simp) [0] [] [0] rfl (.cons (.same (by simp [h2, h2_, h5, h5_])) (.cons (.same (by simp [h2, h2_, h5, h5_])) .nil)) (by simp [h2, h2_, h5, h5_]) (by decide) (by simp) (by simp) (.inl rfl) (by simp) (by simp) ?_
      try simp [h2, h2_, h5, h5_]
      repeat' apply And.intro
      try any_goals (first | omega | (unfold maxLen; omega) | (simp [h2, h2_, h5, h5_]; done))
      obtain ⟨v15, v16, h11, hF⟩ := bnd2_elim hF
      refine aCall_l (w_made_Dice_Some k _ _ _ _ _ h11) (by simp) [0] [] [0] rfl (.cons (.same (by simp [h2, h2_, h5, h5_])) (.cons (.same (by simp [h2, h2_, h5, h5_])) .nil)) (by simp [h2, h2_, h5, h5_]) (by decide) (by simp) (by simp) (.inl rfl) (by simp) (by simp) ?_
      try simp [h2, h2_, h5, h5_]
      repeat' apply And.intro
      any_goals (first | exact hG24 _ (by kernel_rfl) | refine hR24 _ _ _ ?_ | omega | (unfold maxLen; omega) | (simp [h2, h2_, h5, h5_]; done) | (simp [h2, h2_, h5, h5_]; omega))
      refine AW.wk [(6, AV.ptr 1 0), (7, AV.int .i64 v11), (8, AV.str (ofI v13)), (9, AV.slc 3 0 1 v15.length false)] [(1, .cells [AV.lst false false (List.map (AV.int .i64) v9), AV.int .i64 v10]), (3, .grow (List.map (AV.int .i64) v15))] 4 (by simp [h2, h2_, h5, h5_]) (by simp [h2, h2_, h5, h5_]) (by simp) ?_
      refine AW.frz 3 (o := .grow (List.map (AV.int .i64) v15)) (by simp [h2, h2_, h5, h5_]) rfl [(9, AV.lst false false (List.map (AV.int .i64) v15))] [] ⟨(.l (by simp) (by simp) (by simp) (by simp)), trivial⟩ trivial ?_
      refine AW.wk [(6, AV.ptr 1 0), (7, AV.int .i64 v11), (8, AV.str (ofI v13)), (9, AV.lst false false (List.map (AV.int .i64) v15))] [(1, .cells [AV.lst false false (List.map (AV.int .i64) v9), AV.int .i64 v10])] 4 (by simp [h2, h2_, h5, h5_]) (by simp [h2, h2_, h5, h5_]) (by simp) ?_
      refine AW.seqR mixed [] [none, none, none, none, none, none, none, none, none, none] (by kernel_rfl) fun G25 R25 hG25 hR25 => ?_
      try simp [h2, h2_, h5, h5_]
      repeat' apply And.intro
      try any_goals (first | omega | (unfold maxLen; omega) | (simp [h2, h2_, h5, h5_]; done))
      obtain ⟨v17, v18, h12, hF⟩ := bnd2_elim hF
      refine aCall_l (w_made_Dice_Next k _ _ _ _ _ h12) (by simp) [1] [] [1] rfl (.cons (.same (by simp [h2, h2_, h5, h5_])) (.cons (.same (by simp [h2, h2_, h5, h5_])) .nil)) (by simp [h2, h2_, h5, h5_]) (by decide) (by simp) (by simp) (.inl rfl) (by simp) (by simp) ?_
      try simp [h2, h2_, h5, h5_]
      repeat' apply And.intro
      try any_goals (first | omega | (unfold maxLen; omega) | (simp [h2, h2_, h5, h5_]; done))
      obtain ⟨v19, v20, h13, hF⟩ := bnd2_elim hF
      refine aCall_l (w_made_Dice_Bytes k _ _ _ _ _ h13) (by simp) [1] [] [1] rfl (.cons (.same (by simp [h2, h2_, h5, h5_])) (.cons (.same (by simp [h2, h2_, h5, h5_])) .nil)) (by simp [h2, h2_, h5, h5_]) (by decide) (by simp) (by simp) (.inl rfl) (by simp) (by simp) ?_
      try simp [h2, h2_, h5, h5_]
      repeat' apply And.intro
      try any_goals (first | omega | (unfold maxLen; omega) | (simp [h2, h2_, h5, h5_]; done))
      obtain ⟨v21, v22, h14, hF⟩ := bnd2_elim hF
      refine aCall_l (w_made_Dice_Some k _ _ _ _ _ h14) (by simp) [1] [] [1] rfl (.cons (.same (by simp [h2, h2_, h5, h5_])) (.cons (.same (by simp [h2, h2_, h5, h5_])) .nil)) (by simp [h2, h2_, h5, h5_]) (by decide) (by simp) (by simp) (.inl rfl) (by simp) (by simp) ?_
      try simp [h2, h2_, h5, h5_]
      repeat' apply And.intro
      any_goals (first | exact hG25 _ (by kernel_rfl) | refine hR25 _ _ _ ?_ | omega | (unfold maxLen; omega) | (simp [h2, h2_, h5, h5_]; done) | (simp [h2, h2_, h5, h5_]; omega))
      refine AW.wk [(7, AV.int .i64 v11), (8, AV.str (ofI v13)), (9, AV.lst false false (List.map (AV.int .i64) v15)), (10, AV.int .i64 v17), (11, AV.str (ofI v19)), (12, AV.slc 5 0 1 v21.length false)] [(5, .grow (List.map (AV.int .i64) v21))] 6 (by simp [h2, h2_, h5, h5_]) (by simp [h2, h2_, h5, h5_]) (by simp) ?_
      refine AW.frz 5 (o := .grow (List.map (AV.int .i64) v21)) (by simp [h2, h2_, h5, h5_]) rfl [(12, AV.lst false false (List.map (AV.int .i64) v21))] [] ⟨(.l (by simp) (by simp) (by simp) (by simp)), trivial⟩ trivial ?_
      refine AW.wk [(7, AV.int .i64 v11), (8, AV.str (ofI v13)), (9, AV.lst false false (List.map (AV.int .i64) v15)), (10, AV.int .i64 v17), (11, AV.str (ofI v19)), (12, AV.lst false false (List.map (AV.int .i64) v21))] [] 6 (by simp [h2, h2_, h5, h5_]) (by simp [h2, h2_, h5, h5_]) (by simp) ?_
      refine AW.seqR mixed [] [none, none, none, none, none, none, none] (by kernel_rfl) fun G26 R26 hG26 hR26 => ?_
      try simp [h2, h2_, h5, h5_]
      repeat' apply And.intro
      try any_goals (first | omega | (unfold maxLen; omega) | (simp [h2, h2_, h5, h5_]; done))
      obtain ⟨v23, h15, hF⟩ := bnd1_elim hF
      refine aCall_l (w_wire_Int k _ _ _ h15) (by simp) [] [] [] rfl (.cons (Coe.fl (by simp [h2, h2_, h5, h5_])) (.cons (.same (by simp [h2, h2_, h5, h5_])) .nil)) (by simp [h2, h2_, h5, h5_]) (by decide) (by simp) (by simp) (.inl rfl) (by simp) (by simp) ?_
      try simp [h2, h2_, h5, h5_]
      repeat' apply And.intro
      try any_goals (first | omega | (unfold maxLen; omega) | (simp [h2, h2_, h5, h5_]; done))
      obtain ⟨v24, h16, hF⟩ := bnd1_elim hF
      refine aCall_l (w_wire_Text k _ _ _ h16) (by simp) [] [6] [] rfl (.cons (Coe.l (o := .grow (List.map (AV.int .u8) v23)) (by simp [h2, h2_, h5, h5_]) rfl (by simp [h2, h2_, h5, h5_]) (by simp [noIdsL]) (by simp [h2, h2_, h5, h5_]) (by simp [h2, h2_, h5, h5_])) (.cons (.same (by simp [h2, h2_, h5, h5_])) .nil)) (by simp [h2, h2_, h5, h5_]) (by decide) (by simp) (by simp) (.inr ⟨by simp, by simp⟩) (by simp) (by simp) ?_
      try simp [h2, h2_, h5, h5_]
      repeat' apply And.intro
      try any_goals (first | omega | (unfold maxLen; omega) | (simp [h2, h2_, h5, h5_]; done))
      obtain ⟨v25, h17, hF⟩ := bnd1_elim hF
      refine aCall_l (w_wire_Ints k _ _ _ h17) (by simp) [] [7] [] rfl (.cons (Coe.l (o := .grow (List.map (AV.int .u8) v24)) (by simp [h2, h2_, h5, h5_]) rfl (by simp [h2, h2_, h5, h5_]) (by simp [noIdsL]) (by simp [h2, h2_, h5, h5_]) (by simp [h2, h2_, h5, h5_])) (.cons (.same (by simp [h2, h2_, h5, h5_])) .nil)) (by simp [h2, h2_, h5, h5_]) (by decide) (by simp) (by simp) (.inr ⟨by simp, by simp⟩) (by simp) (by simp) ?_
      try simp [h2, h2_, h5, h5_]
      repeat' apply And.intro
      any_goals (first | exact hG26 _ (by kernel_rfl) | refine hR26 _ _ _ ?_ | omega | (unfold maxLen; omega) | (simp [h2, h2_, h5, h5_]; done) | (simp [h2, h2_, h5, h5_]; omega))
      refine AW.wk [(7, AV.int .i64 v11), (8, AV.str (ofI v13)), (9, AV.lst false false (List.map (AV.int .i64) v15)), (10, AV.int .i64 v17), (11, AV.str (ofI v19)), (12, AV.lst false false (List.map (AV.int .i64) v21)), (13, AV.slc 8 0 1 v25.length false)] [(8, .grow (List.map (AV.int .u8) v25))] 9 (by simp [h2, h2_, h5, h5_]) (by simp [h2, h2_, h5, h5_]) (by simp) ?_
      refine AW.frz 8 (o := .grow (List.map (AV.int .u8) v25)) (by simp [h2, h2_, h5, h5_]) rfl [(13, AV.lst false false (List.map (AV.int .u8) v25))] [] ⟨(.l (by simp) (by simp) (by simp) (by simp)), trivial⟩ trivial ?_
      refine AW.wk [(7, AV.int .i64 v11), (8, AV.str (ofI v13)), (9, AV.lst false false (List.map (AV.int .i64) v15)), (10, AV.int .i64 v17), (11, AV.str (ofI v19)), (12, AV.lst false false (List.map (AV.int .i64) v21)), (13, AV.lst false false (List.map (AV.int .u8) v25))] [] 9 (by simp [h2, h2_, h5, h5_]) (by simp [h2, h2_, h5, h5_]) (by simp) ?_
      refine AW.seqR mixed [] [none, none, none, none, none, none, none] (by kernel_rfl) fun G27 R27 hG27 hR27 => ?_
      try simp [h2, h2_, h5, h5_]
      repeat' apply And.intro
      try any_goals (first | omega | (unfold maxLen; omega) | (simp [h2, h2_, h5, h5_]; done))
      obtain ⟨v26, h18, hF⟩ := bnd1_elim hF
      refine aCall_l (w_wire_Int k _ _ _ h18) (by simp) [] [] [] rfl (.cons (Coe.fl (by simp [h2, h2_, h5, h5_])) (.cons (.same (by simp [h2, h2_, h5, h5_])) .nil)) (by simp [h2, h2_, h5, h5_]) (by decide) (by simp) (by simp) (.inl rfl) (by simp) (by simp) ?_
      try simp [h2, h2_, h5, h5_]
      repeat' apply And.intro
      try any_goals (first | omega | (unfold maxLen; omega) | (simp [h2, h2_, h5, h5_]; done))
      obtain ⟨v27, h19, hF⟩ := bnd1_elim hF
      refine aCall_l (w_wire_Text k _ _ _ h19) (by simp) [] [9] [] rfl (.cons (Coe.l (o := .grow (List.map (AV.int .u8) v26)) (by simp [h2, h2_, h5, h5_]) rfl (by simp [h2, h2_, h5, h5_]) (by simp [noIdsL]) (by simp [h2, h2_, h5, h5_]) (by simp [h2, h2_, h5, h5_])) (.cons (.same (by simp [h2, h2_, h5, h5_])) .nil)) (by simp [h2, h2_, h5, h5_]) (by decide) (by simp) (by simp) (.inr ⟨by simp, by simp⟩) (by simp) (by simp) ?_
      try simp [h2, h2_, h5, h5_]
      repeat' apply And.intro
      try any_goals (first | omega | (unfold maxLen; omega) | (simp [h2, h2_, h5, h5_]; done))
      obtain ⟨v28, h20, hF⟩ := bnd1_elim hF
      refine aCall_l (w_wire_Ints k _ _ _ h20) (by simp) [] [10] [] rfl (.cons (Coe.l (o := .grow (List.map (AV.int .u8) v27)) (by simp [h2, h2_, h5, h5_]) rfl (by simp [h2, h2_, h5, h5_]) (by simp [noIdsL]) (by simp [h2, h2_, h5, h5_]) (by simp [h2, h2_, h5, h5_])) (.cons (.same (by simp [h2, h2_, h5, h5_])) .nil)) (by simp [h2, h2_, h5, h5_]) (by decide) (by simp) (by simp) (.inr ⟨by simp, by simp⟩) (by simp) (by simp) ?_
      try simp [h2, h2_, h5, h5_]
      repeat' apply And.intro
      any_goals (first | exact hG27 _ (by kernel_rfl) | refine hR27 _ _ _ ?_ | omega | (unfold maxLen; omega) | (simp [h2, h2_, h5, h5_]; done) | (simp [h2, h2_, h5, h5_]; omega))
      refine AW.wk [(7, AV.int .i64 v11), (8, AV.str (ofI v13)), (9, AV.lst false false (List.map (AV.int .i64) v15)), (10, AV.int .i64 v17), (11, AV.str (ofI v19)), (12, AV.lst false false (List.map (AV.int .i64) v21)), (13, AV.lst false false (List.map (AV.int .u8) v25)), (14, AV.slc 11 0 1 v28.length false)] [(11, .grow (List.map (AV.int .u8) v28))] 12 (by simp [h2, h2_, h5, h5_]) (by simp [h2, h2_, h5, h5_]) (by simp) ?_
      refine AW.frz 11 (o := .grow (List.map (AV.int .u8) v28)) (by simp [h2, h2_, h5, h5_]) rfl [(14, AV.lst false false (List.map (AV.int .u8) v28))] [] ⟨(.l (by simp) (by simp) (by simp) (by simp)), trivial⟩ trivial ?_
      refine AW.wk [(7, AV.int .i64 v11), (8, AV.str (ofI v13)), (9, AV.lst false false (List.map (AV.int .i64) v15)), (10, AV.int .i64 v17), (11, AV.str (ofI v19)), (12, AV.lst false false (List.map (AV.int .i64) v21)), (13, AV.lst false false (List.map (AV.int .u8) v25)), (14, AV.lst false false (List.map (AV.int .u8) v28))] [] 12 (by simp [h2, h2_, h5, h5_]) (by simp [h2, h2_, h5, h5_]) (by simp) ?_
      refine AW.seqR mixed [] [none, none, some (55, true), some (55, true), some (55, true), some (55, true), some (55, true), some (55, true), some (55, true), some (55, true), some (55, true), some (64, true), some (64, true), some (64, true), some (55, true), some (55, true), some (69, true), some (69, true), some (69, true), some (55, true), some (55, true), none, none] (by kernel_rfl) fun G28 R28 hG28 hR28 => ?_
      try simp [h2, h2_, h5, h5_]
      repeat' apply And.intro
      try any_goals (first | omega | (unfold maxLen; omega) | (simp [h2, h2_, h5, h5_]; done))
      obtain ⟨v29, h21, hF⟩ := bnd1_elim hF
      refine aCall_l (w_law02_awake k _ h21) (by simp) [] [] [] rfl .nil (by simp [h2, h2_, h5, h5_]) (by decide) (by simp) (by simp) (.inl rfl) (by simp) (by simp) ?_
      by_cases h22 : v29 = true
      · replace hF := ite_t h22 hF
        have h22_ := h22
        try simp at h22_
        by_cases h23 : v11 = v17
        · replace hF := ite_t h23 hF
          have h23q : v11 = v17 := h23
          have h23_ := eqb_t h23q
          have h23__ := neb_f h23q
          by_cases h24 : (strEq (ofI v13) (ofI v19)) = true
          · replace hF := ite_t h24 hF
            have h24_ := h24
            try simp at h24_
            try simp [h2, h2_, h5, h5_, h22, h22_, h23_, h23__, h24, h24_]
            repeat' apply And.intro
            try any_goals (first | omega | (unfold maxLen; omega) | (simp [h2, h2_, h5, h5_, h22, h22_, h23_, h23__, h24, h24_]; done))
            obtain ⟨v30, h25, hF⟩ := bnd1_elim hF
            refine aCall_l (w_law02_sameInts k _ _ _ h25) (by simp) [] [] [] rfl (.cons (.same (by simp [h2, h2_, h5, h5_, h22, h22_, h23_, h23__, h24, h24_])) (.cons (.same (by simp [h2, h2_, h5, h5_, h22, h22_, h23_, h23__, h24, h24_])) .nil)) (by simp [h2, h2_, h5, h5_, h22, h22_, h23_, h23__, h24, h24_]) (by decide) (by simp) (by simp) (.inl rfl) (by simp) (by simp) ?_
            try simp [h2, h2_, h5, h5_, h22, h22_, h23_, h23__, h24, h24_]
            repeat' apply And.intro
            any_goals (first | exact hG28 _ (by kernel_rfl) | refine hR28 _ _ _ ?_ | omega | (unfold maxLen; omega) | (simp [h2, h2_, h5, h5_, h22, h22_, h23_, h23__, h24, h24_]; done) | (simp [h2, h2_, h5, h5_, h22, h22_, h23_, h23__, h24, h24_]; omega))
            refine AW.wk [(4, AV.bool ((strEq (ofI v25) (ofI v28)) == v30))] [] 12 (by simp [h2, h2_, h5, h5_, h22, h22_, h23_, h23__, h24, h24_]) (by simp [h2, h2_, h5, h5_, h22, h22_, h23_, h23__, h24, h24_]) (by simp) ?_
            simp only [Option.some.injEq] at hF
            subst hF
            refine AW.ret (hQ _ _ _ ?_ (matchO_0 ?_)).1
            · simp [Try.f5, h2, h2_, h5, h5_, h22, h22_, h23_, h23__, h24, h24_]
            · simp [h2, h2_, h5, h5_, h22, h22_, h23_, h23__, h24, h24_]
          · replace hF := ite_f h24 hF
            have h24_ := h24
            try simp at h24_
            try simp [h2, h2_, h5, h5_, h22, h22_, h23_, h23__, h24, h24_]
            repeat' apply And.intro
            any_goals (first | exact hG28 _ (by kernel_rfl) | refine hR28 _ _ _ ?_ | omega | (unfold maxLen; omega) | (simp [h2, h2_, h5, h5_, h22, h22_, h23_, h23__, h24, h24_]; done) | (simp [h2, h2_, h5, h5_, h22, h22_, h23_, h23__, h24, h24_]; omega))
            refine AW.wk [(4, AV.bool ((strEq (ofI v25) (ofI v28)) == false))] [] 12 (by simp [h2, h2_, h5, h5_, h22, h22_, h23_, h23__, h24, h24_]) (by simp [h2, h2_, h5, h5_, h22, h22_, h23_, h23__, h24, h24_]) (by simp) ?_
            simp only [Option.some.injEq] at hF
            subst hF
            refine AW.ret (hQ _ _ _ ?_ (matchO_0 ?_)).1
            · simp [Try.f5, h2, h2_, h5, h5_, h22, h22_, h23_, h23__, h24, h24_]
            · simp [h2, h2_, h5, h5_, h22, h22_, h23_, h23__, h24, h24_]
        · replace hF := ite_f h23 hF
          have h23_ := eqb_f h23
          have h23__ := neb_t h23
          try simp [h2, h2_, h5, h5_, h22, h22_, h23, h23_, h23__]
          repeat' apply And.intro
          any_goals (first | exact hG28 _ (by kernel_rfl) | refine hR28 _ _ _ ?_ | omega | (unfold maxLen; omega) | (simp [h2, h2_, h5, h5_, h22, h22_, h23, h23_, h23__]; done) | (simp [h2, h2_, h5, h5_, h22, h22_, h23, h23_, h23__]; omega))
          refine AW.wk [(4, AV.bool ((strEq (ofI v25) (ofI v28)) == false))] [] 12 (by simp [h2, h2_, h5, h5_, h22, h22_, h23, h23_, h23__]) (by simp [h2, h2_, h5, h5_, h22, h22_, h23, h23_, h23__]) (by simp) ?_
          simp only [Option.some.injEq] at hF
          subst hF
          refine AW.ret (hQ _ _ _ ?_ (matchO_0 ?_)).1
          · simp [Try.f5, h2, h2_, h5, h5_, h22, h22_, h23, h23_, h23__]
          · simp [h2, h2_, h5, h5_, h22, h22_, h23, h23_, h23__]
      · replace hF := ite_f h22 hF
        have h22_ := h22
        try simp at h22_
        try simp [h2, h2_, h5, h5_, h22, h22_]
        repeat' apply And.intro
        any_goals (first | exact hG28 _ (by kernel_rfl) | refine hR28 _ _ _ ?_ | omega | (unfold maxLen; omega) | (simp [h2, h2_, h5, h5_, h22, h22_]; done) | (simp [h2, h2_, h5, h5_, h22, h22_]; omega))
        refine AW.wk [(4, AV.bool false)] [] 12 (by simp [h2, h2_, h5, h5_, h22, h22_]) (by simp [h2, h2_, h5, h5_, h22, h22_]) (by simp) ?_
        simp only [Option.some.injEq] at hF
        subst hF
        refine AW.ret (hQ _ _ _ ?_ (matchO_0 ?_)).1
        · simp [Try.f5, h2, h2_, h5, h5_, h22, h22_]
        · simp [h2, h2_, h5, h5_, h22, h22_]
end Go.TF
