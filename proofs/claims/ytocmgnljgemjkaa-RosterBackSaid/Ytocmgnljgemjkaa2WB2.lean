/- Walks: the Go text computes the Lean functions (printed by a program of our own). -/
import Derived.Test.Ytocmgnljgemjkaa2Pu
import Derived.Test.Ytocmgnljgemjkaa2AbsT
import Derived.Test.Ytocmgnljgemjkaa2Wa0
import Derived.Test.Ytocmgnljgemjkaa2WB1
set_option linter.unusedVariables false
set_option linter.unusedSimpArgs false
set_option maxRecDepth 100000
namespace Go.TF
open Go Go.Abs Go.Proofs Go.Proofs.Ytocmgnljgemjkaa2T
set_option maxHeartbeats 4000000 in
theorem w_ref23_SameInts (k : Nat) (v0 : (List Int)) (v1 : (List Int)) (v2 : Bool) (hF : ref23_SameInts k v0 v1 = some v2) :
    FCall Try.prog 49 [AV.lst false false (List.map (AV.int .i64) v0), AV.lst false false (List.map (AV.int .i64) v1)] [] (AV.bool v2) [] := by
  unfold ref23_SameInts at hF
  refine FCall.enter Try.func49 rfl (by simp) (by decide) (by simp) (by simp) (by simp) (by simp) (by simp) ?_
  intro c0 w0 Q h0 hQ
  refine AW.wk [(0, AV.lst false false (List.map (AV.int .i64) v0)), (1, AV.lst false false (List.map (AV.int .i64) v1))] [] 0 (by simp) (by simp) (by simp) ?_
  refine AW.seqR mixed [] [none] (by kernel_rfl) fun G67 R67 hG67 hR67 => ?_
  try simp
  repeat' apply And.intro
  any_goals (first | exact hG67 _ (by kernel_rfl) | refine hR67 _ _ _ ?_ | omega | (unfold maxLen; omega) | (simp; done) | (simp; omega))
  refine AW.wk [(0, AV.lst false false (List.map (AV.int .i64) v0)), (1, AV.lst false false (List.map (AV.int .i64) v1))] [] 0 (by simp) (by simp) (by simp) ?_
  refine AW.seq fun K70 hK70 => ?_
  refine AW.seqR mixed [] [none, none, none, none, none] (by kernel_rfl) fun G71 R71 hG71 hR71 => ?_
  try simp
  repeat' apply And.intro
  any_goals (first | exact hG71 _ (by kernel_rfl) | refine hR71 _ _ _ ?_ | omega | (unfold maxLen; omega) | (simp; done) | (simp; omega))
  refine AW.wk [(0, AV.lst false false (List.map (AV.int .i64) v0)), (1, AV.lst false false (List.map (AV.int .i64) v1)), (10, AV.bool ((v0.length : Int) != (v1.length : Int)))] [] 0 (by simp) (by simp) (by simp) ?_
  by_cases h1 : (v0.length : Int) ≠ (v1.length : Int)
  · replace hF := ite_t h1 hF
    have h1_ := eqb_f h1
    have h1__ := neb_t h1
    refine AW.condT (by decide) (by first | (simp [h1, h1_, h1__]; done) | (simp [h1, h1_, h1__]; omega)) ?_
    refine AW.seqR mixed [] [none] (by kernel_rfl) fun G72 R72 hG72 hR72 => ?_
    try simp [h1, h1_, h1__]
    repeat' apply And.intro
    any_goals (first | exact hG72 _ (by kernel_rfl) | refine hR72 _ _ _ ?_ | omega | (unfold maxLen; omega) | (simp [h1, h1_, h1__]; done) | (simp [h1, h1_, h1__]; omega))
    refine AW.wk [(4, AV.bool false)] [] 0 (by simp [h1, h1_, h1__]) (by simp [h1, h1_, h1__]) (by simp) ?_
    simp only [Option.some.injEq] at hF
    subst hF
    refine AW.ret (hQ _ _ _ ?_ (matchO_0 ?_)).1
    · simp [Try.f49, h1, h1_, h1__]
    · simp [h1, h1_, h1__]
  · replace hF := ite_f h1 hF
    have h1q : (v0.length : Int) = (v1.length : Int) := Classical.not_not.1 h1
    have h1_ := eqb_t h1q
    have h1__ := neb_f h1q
    refine AW.condF (by decide) (by first | (simp [h1_, h1__]; done) | (simp [h1_, h1__]; omega)) ?_
    refine AW.skip ?_
    refine hK70 _ _ _ ?_
    refine AW.seq fun K102 hK102 => ?_
    refine AW.seqR mixed [] [none] (by kernel_rfl) fun G103 R103 hG103 hR103 => ?_
    try simp [h1_, h1__]
    repeat' apply And.intro
    any_goals (first | exact hG103 _ (by kernel_rfl) | refine hR103 _ _ _ ?_ | omega | (unfold maxLen; omega) | (simp [h1_, h1__]; done) | (simp [h1_, h1__]; omega))
    refine AW.wk [(0, AV.lst false false (List.map (AV.int .i64) v0)), (1, AV.lst false false (List.map (AV.int .i64) v1)), (5, AV.int .i64 0)] [] 0 (by simp [h1_, h1__]) (by simp [h1_, h1__]) (by simp) ?_
    refine AW.block ?_
    refine AW.loopF (α := Int) (fun n v3 => ref23_SameInts.L1 k v0 v1 n v3 = some v2) (fun v3 => [(0, AV.lst false false (List.map (AV.int .i64) v0)), (1, AV.lst false false (List.map (AV.int .i64) v1)), (5, AV.int .i64 v3)]) (fun v3 => []) 0 k (0) hF (by simp [h1_, h1__]) (by simp [h1_, h1__]) (by simp) ?_
    rintro (_|n1) v3 hF K122 hK122
    · try dsimp only at hF
      rw [ref23_SameInts.L1] at hF; cases hF
    try dsimp only at hF
    rw [ref23_SameInts.L1] at hF
    refine AW.seq fun K124 hK124 => ?_
    refine AW.seqR mixed [] [none, none, none, none] (by kernel_rfl) fun G125 R125 hG125 hR125 => ?_
    try simp [h1_, h1__]
    repeat' apply And.intro
    any_goals (first | exact hG125 _ (by kernel_rfl) | refine hR125 _ _ _ ?_ | omega | (unfold maxLen; omega) | (simp [h1_, h1__]; done) | (simp [h1_, h1__]; omega))
    refine AW.wk [(0, AV.lst false false (List.map (AV.int .i64) v0)), (1, AV.lst false false (List.map (AV.int .i64) v1)), (5, AV.int .i64 v3), (14, AV.bool (decide (v3 < (v0.length : Int))))] [] 0 (by simp [h1_, h1__]) (by simp [h1_, h1__]) (by simp) ?_
    by_cases h2 : v3 < (v0.length : Int)
    · replace hF := ite_t h2 hF
      have h2_ := h2
      try simp at h2_
      refine AW.condT (by decide) (by first | (simp [h1_, h1__, h2, h2_]; done) | (simp [h1_, h1__, h2, h2_]; omega)) ?_
      refine AW.skip ?_
      refine hK124 _ _ _ ?_
      refine AW.seq fun K128 hK128 => ?_
      refine AW.block ?_
      refine AW.seqR mixed [] [none, none, none, none, none, none, none, none, none] (by kernel_rfl) fun G129 R129 hG129 hR129 => ?_
      obtain ⟨v4, h3, h4, h5, hF⟩ := idx_elim hF
      have h5_ := get_of h5
      try simp at h5_
      have h4_ := h4
      try simp at h4_
      obtain ⟨v5, h6, h7, h8, hF⟩ := idx_elim hF
      have h8_ := get_of h8
      try simp at h8_
      have h7_ := h7
      try simp at h7_
      try simp [h1_, h1__, h2, h2_, h3, h4, h5, h5_, h4_, h6, h7, h8, h8_, h7_]
      repeat' apply And.intro
      any_goals (first | exact hG129 _ (by kernel_rfl) | refine hR129 _ _ _ ?_ | omega | (unfold maxLen; omega) | (simp [h1_, h1__, h2, h2_, h3, h4, h5, h5_, h4_, h6, h7, h8, h8_, h7_]; done) | (simp [h1_, h1__, h2, h2_, h3, h4, h5, h5_, h4_, h6, h7, h8, h8_, h7_]; omega))
      refine AW.wk [(0, AV.lst false false (List.map (AV.int .i64) v0)), (1, AV.lst false false (List.map (AV.int .i64) v1)), (5, AV.int .i64 v3), (25, AV.bool (v4 != v5))] [] 0 (by simp [h1_, h1__, h2, h2_, h3, h4, h5, h5_, h4_, h6, h7, h8, h8_, h7_]) (by simp [h1_, h1__, h2, h2_, h3, h4, h5, h5_, h4_, h6, h7, h8, h8_, h7_]) (by simp) ?_
      by_cases h9 : v4 ≠ v5
      · replace hF := ite_t h9 hF
        have h9_ := eqb_f h9
        have h9__ := neb_t h9
        refine AW.condT (by decide) (by first | (simp [h1_, h1__, h2, h2_, h3, h4, h5, h5_, h4_, h6, h7, h8, h8_, h7_, h9, h9_, h9__]; done) | (simp [h1_, h1__, h2, h2_, h3, h4, h5, h5_, h4_, h6, h7, h8, h8_, h7_, h9, h9_, h9__]; omega)) ?_
        refine AW.seqR mixed [] [none] (by kernel_rfl) fun G130 R130 hG130 hR130 => ?_
        try simp [h1_, h1__, h2, h2_, h3, h4, h5, h5_, h4_, h6, h7, h8, h8_, h7_, h9, h9_, h9__]
        repeat' apply And.intro
        any_goals (first | exact hG130 _ (by kernel_rfl) | refine hR130 _ _ _ ?_ | omega | (unfold maxLen; omega) | (simp [h1_, h1__, h2, h2_, h3, h4, h5, h5_, h4_, h6, h7, h8, h8_, h7_, h9, h9_, h9__]; done) | (simp [h1_, h1__, h2, h2_, h3, h4, h5, h5_, h4_, h6, h7, h8, h8_, h7_, h9, h9_, h9__]; omega))
        refine AW.wk [(4, AV.bool false)] [] 0 (by simp [h1_, h1__, h2, h2_, h3, h4, h5, h5_, h4_, h6, h7, h8, h8_, h7_, h9, h9_, h9__]) (by simp [h1_, h1__, h2, h2_, h3, h4, h5, h5_, h4_, h6, h7, h8, h8_, h7_, h9, h9_, h9__]) (by simp) ?_
        simp only [Option.some.injEq] at hF
        subst hF
        refine AW.ret (hQ _ _ _ ?_ (matchO_0 ?_)).1
        · simp [Try.f49, h1_, h1__, h2, h2_, h3, h4, h5, h5_, h4_, h6, h7, h8, h8_, h7_, h9, h9_, h9__]
        · simp [h1_, h1__, h2, h2_, h3, h4, h5, h5_, h4_, h6, h7, h8, h8_, h7_, h9, h9_, h9__]
      · replace hF := ite_f h9 hF
        have h9q : v4 = v5 := Classical.not_not.1 h9
        have h9_ := eqb_t h9q
        have h9__ := neb_f h9q
        refine AW.condF (by decide) (by first | (simp [h1_, h1__, h2, h2_, h3, h4, h5, h5_, h4_, h6, h7, h8, h8_, h7_, h9_, h9__]; done) | (simp [h1_, h1__, h2, h2_, h3, h4, h5, h5_, h4_, h6, h7, h8, h8_, h7_, h9_, h9__]; omega)) ?_
        refine AW.skip ?_
        refine hK128 _ _ _ ?_
        refine AW.region mixed [] [none, none, none] (by kernel_rfl) fun G131 R131 hG131 hR131 => ?_
        try simp [h1_, h1__, h2, h2_, h3, h4, h5, h5_, h4_, h6, h7, h8, h8_, h7_, h9_, h9__]
        repeat' apply And.intro
        any_goals (first | exact hG131 _ (by kernel_rfl) | refine hR131 _ _ _ ?_ | omega | (unfold maxLen; omega) | (simp [h1_, h1__, h2, h2_, h3, h4, h5, h5_, h4_, h6, h7, h8, h8_, h7_, h9_, h9__]; done) | (simp [h1_, h1__, h2, h2_, h3, h4, h5, h5_, h4_, h6, h7, h8, h8_, h7_, h9_, h9__]; omega))
        refine hK122 _ _ _ ?_
        refine Can.weak [(0, AV.lst false false (List.map (AV.int .i64) v0)), (1, AV.lst false false (List.map (AV.int .i64) v1)), (5, AV.int .i64 (IntKind.wrap .i64 (v3 + 1)))] [] 0 (by simp [h1_, h1__, h2, h2_, h3, h4, h5, h5_, h4_, h6, h7, h8, h8_, h7_, h9_, h9__]) (by simp [h1_, h1__, h2, h2_, h3, h4, h5, h5_, h4_, h6, h7, h8, h8_, h7_, h9_, h9__]) (by simp) ?_
        exact Can.next (k' := n1) (IntKind.wrap .i64 (v3 + 1)) (by omega) hF (by simp [h1_, h1__, h2, h2_, h3, h4, h5, h5_, h4_, h6, h7, h8, h8_, h7_, h9_, h9__]) (by simp [h1_, h1__, h2, h2_, h3, h4, h5, h5_, h4_, h6, h7, h8, h8_, h7_, h9_, h9__]) (by simp)
    · replace hF := ite_f h2 hF
      have h2_ := h2
      try simp at h2_
      refine AW.condF (by decide) (by first | (simp [h1_, h1__, h2, h2_]; done) | (simp [h1_, h1__, h2, h2_]; omega)) ?_
      refine AW.exit ?_
      try simp
      refine hK102 _ _ _ ?_
      refine AW.seqR mixed [] [none] (by kernel_rfl) fun G132 R132 hG132 hR132 => ?_
      try simp [h1_, h1__, h2, h2_]
      repeat' apply And.intro
      any_goals (first | exact hG132 _ (by kernel_rfl) | refine hR132 _ _ _ ?_ | omega | (unfold maxLen; omega) | (simp [h1_, h1__, h2, h2_]; done) | (simp [h1_, h1__, h2, h2_]; omega))
      refine AW.wk [(4, AV.bool true)] [] 0 (by simp [h1_, h1__, h2, h2_]) (by simp [h1_, h1__, h2, h2_]) (by simp) ?_
      simp only [Option.some.injEq] at hF
      subst hF
      refine AW.ret (hQ _ _ _ ?_ (matchO_0 ?_)).1
      · simp [Try.f49, h1_, h1__, h2, h2_]
      · simp [h1_, h1__, h2, h2_]
set_option maxHeartbeats 4000000 in
theorem w_law24_awake (k : Nat) (v0 : Bool) (hF : law24_awake k = some v0) :
    FCall Try.prog 48 [] [] (AV.bool v0) [] := by
  unfold law24_awake at hF
  refine FCall.enter Try.func48 rfl (by simp) (by decide) (by simp) (by simp) (by simp) (by simp) (by simp) ?_
  intro c0 w0 Q h0 hQ
  refine AW.wk [] [] 0 (by simp) (by simp) (by simp) ?_
  refine AW.seqR mixed [] [none] (by kernel_rfl) fun G5 R5 hG5 hR5 => ?_
  try simp
  repeat' apply And.intro
  any_goals (first | exact hG5 _ (by kernel_rfl) | refine hR5 _ _ _ ?_ | omega | (unfold maxLen; omega) | (simp; done) | (simp; omega))
  refine AW.wk [] [] 0 (by simp) (by simp) (by simp) ?_
  refine AW.seqR mixed [] [none, none, none, none, none, none, none] (by kernel_rfl) fun G6 R6 hG6 hR6 => ?_
  try simp
  repeat' apply And.intro
  try any_goals (first | omega | (unfold maxLen; omega) | (simp; done))
  obtain ⟨v1, v2, h1, hF⟩ := bnd2_elim hF
  refine aCall_l (w_roster_Encode k _ _ _ h1) (by simp) [] [] [] rfl (.cons (Coe.fl (by simp)) .nil) (by simp) (by decide) (by simp) (by simp) (.inl rfl) (by simp) (by simp) ?_
  try simp
  repeat' apply And.intro
  any_goals (first | exact hG6 _ (by kernel_rfl) | refine hR6 _ _ _ ?_ | omega | (unfold maxLen; omega) | (simp; done) | (simp; omega))
  refine AW.wk [(1, AV.lst false false (List.map (AV.int .i64) v1)), (2, AV.int .i64 v2)] [] 0 (by simp) (by simp) (by simp) ?_
  refine AW.seqR mixed [] [none, none, none, none, none, none, none] (by kernel_rfl) fun G7 R7 hG7 hR7 => ?_
  try simp
  repeat' apply And.intro
  try any_goals (first | omega | (unfold maxLen; omega) | (simp; done))
  obtain ⟨v3, v4, h2, hF⟩ := bnd2_elim hF
  refine aCall_l (w_roster_Decode k _ _ _ h2) (by simp) [] [] [] rfl (.cons (.same (by simp)) .nil) (by simp) (by decide) (by simp) (by simp) (.inl rfl) (by simp) (by simp) ?_
  try simp
  repeat' apply And.intro
  any_goals (first | exact hG7 _ (by kernel_rfl) | refine hR7 _ _ _ ?_ | omega | (unfold maxLen; omega) | (simp; done) | (simp; omega))
  refine AW.wk [(1, AV.lst false false (List.map (AV.int .i64) v1)), (2, AV.int .i64 v2), (3, AV.slc 0 0 1 v3.length false), (4, AV.int .i64 v4)] [(0, .grow (List.map (AV.int .i64) v3))] 1 (by simp) (by simp) (by simp) ?_
  refine AW.frz 0 (o := .grow (List.map (AV.int .i64) v3)) (by simp) rfl [(3, AV.lst false false (List.map (AV.int .i64) v3))] [] ⟨(.l (by simp) (by simp) (by simp) (by simp)), trivial⟩ trivial ?_
  refine AW.wk [(1, AV.lst false false (List.map (AV.int .i64) v1)), (2, AV.int .i64 v2), (3, AV.lst false false (List.map (AV.int .i64) v3)), (4, AV.int .i64 v4)] [] 1 (by simp) (by simp) (by simp) ?_
  refine AW.seqR mixed [] [none, none, none, some (17, true), some (17, true), none, none, some (21, true), some (21, true), some (21, true), none, none, some (26, true), some (26, true), some (26, true), none, none] (by kernel_rfl) fun G8 R8 hG8 hR8 => ?_
  by_cases h3 : v2 = 0
  · replace hF := ite_t h3 hF
    have h3q : v2 = 0 := h3
    have h3_ := eqb_t h3q
    have h3__ := neb_f h3q
    by_cases h4 : v4 = 0
    · replace hF := ite_t h4 hF
      have h4q : v4 = 0 := h4
      have h4_ := eqb_t h4q
      have h4__ := neb_f h4q
      try simp [h3_, h3__, h3q, h4_, h4__, h4q]
      repeat' apply And.intro
      try any_goals (first | omega | (unfold maxLen; omega) | (simp [h3_, h3__, h3q, h4_, h4__, h4q]; done))
      obtain ⟨v5, h5, hF⟩ := bnd1_elim hF
      refine aCall_l (w_ref23_SameInts k _ _ _ h5) (by simp) [] [] [] rfl (.cons (.same (by simp [h3_, h3__, h3q, h4_, h4__, h4q])) (.cons (Coe.fl (by simp [h3_, h3__, h3q, h4_, h4__, h4q])) .nil)) (by simp [h3_, h3__, h3q, h4_, h4__, h4q]) (by decide) (by simp) (by simp) (.inl rfl) (by simp) (by simp) ?_
      by_cases h6 : v5 = true
      · replace hF := ite_t h6 hF
        have h6_ := h6
        try simp at h6_
        try simp [h3_, h3__, h3q, h4_, h4__, h4q, h6, h6_]
        repeat' apply And.intro
        try any_goals (first | omega | (unfold maxLen; omega) | (simp [h3_, h3__, h3q, h4_, h4__, h4q, h6, h6_]; done))
        obtain ⟨v6, h7, hF⟩ := bnd1_elim hF
        refine aCall_l (w_ref23_SameInts k _ _ _ h7) (by simp) [] [] [] rfl (.cons (.same (by simp [h3_, h3__, h3q, h4_, h4__, h4q, h6, h6_])) (.cons (Coe.fl (by simp [h3_, h3__, h3q, h4_, h4__, h4q, h6, h6_])) .nil)) (by simp [h3_, h3__, h3q, h4_, h4__, h4q, h6, h6_]) (by decide) (by simp) (by simp) (.inl rfl) (by simp) (by simp) ?_
        try simp [h3_, h3__, h3q, h4_, h4__, h4q, h6, h6_]
        repeat' apply And.intro
        any_goals (first | exact hG8 _ (by kernel_rfl) | refine hR8 _ _ _ ?_ | omega | (unfold maxLen; omega) | (simp [h3_, h3__, h3q, h4_, h4__, h4q, h6, h6_]; done) | (simp [h3_, h3__, h3q, h4_, h4__, h4q, h6, h6_]; omega))
        refine AW.wk [(0, AV.bool v6)] [] 1 (by simp [h3_, h3__, h3q, h4_, h4__, h4q, h6, h6_]) (by simp [h3_, h3__, h3q, h4_, h4__, h4q, h6, h6_]) (by simp) ?_
        simp only [Option.some.injEq] at hF
        subst hF
        refine AW.ret (hQ _ _ _ ?_ (matchO_0 ?_)).1
        · simp [Try.f48, h3_, h3__, h3q, h4_, h4__, h4q, h6, h6_]
        · simp [h3_, h3__, h3q, h4_, h4__, h4q, h6, h6_]
      · replace hF := ite_f h6 hF
        have h6_ := h6
        try simp at h6_
        try simp [h3_, h3__, h3q, h4_, h4__, h4q, h6, h6_]
        repeat' apply And.intro
        any_goals (first | exact hG8 _ (by kernel_rfl) | refine hR8 _ _ _ ?_ | omega | (unfold maxLen; omega) | (simp [h3_, h3__, h3q, h4_, h4__, h4q, h6, h6_]; done) | (simp [h3_, h3__, h3q, h4_, h4__, h4q, h6, h6_]; omega))
        refine AW.wk [(0, AV.bool false)] [] 1 (by simp [h3_, h3__, h3q, h4_, h4__, h4q, h6, h6_]) (by simp [h3_, h3__, h3q, h4_, h4__, h4q, h6, h6_]) (by simp) ?_
        simp only [Option.some.injEq] at hF
        subst hF
        refine AW.ret (hQ _ _ _ ?_ (matchO_0 ?_)).1
        · simp [Try.f48, h3_, h3__, h3q, h4_, h4__, h4q, h6, h6_]
        · simp [h3_, h3__, h3q, h4_, h4__, h4q, h6, h6_]
    · replace hF := ite_f h4 hF
      have h4_ := eqb_f h4
      have h4__ := neb_t h4
      try simp [h3_, h3__, h3q, h4, h4_, h4__]
      repeat' apply And.intro
      any_goals (first | exact hG8 _ (by kernel_rfl) | refine hR8 _ _ _ ?_ | omega | (unfold maxLen; omega) | (simp [h3_, h3__, h3q, h4, h4_, h4__]; done) | (simp [h3_, h3__, h3q, h4, h4_, h4__]; omega))
      refine AW.wk [(0, AV.bool false)] [] 1 (by simp [h3_, h3__, h3q, h4, h4_, h4__]) (by simp [h3_, h3__, h3q, h4, h4_, h4__]) (by simp) ?_
      simp only [Option.some.injEq] at hF
      subst hF
      refine AW.ret (hQ _ _ _ ?_ (matchO_0 ?_)).1
      · simp [Try.f48, h3_, h3__, h3q, h4, h4_, h4__]
      · simp [h3_, h3__, h3q, h4, h4_, h4__]
  · replace hF := ite_f h3 hF
    have h3_ := eqb_f h3
    have h3__ := neb_t h3
    try simp [h3, h3_, h3__]
    repeat' apply And.intro
    any_goals (first | exact hG8 _ (by kernel_rfl) | refine hR8 _ _ _ ?_ | omega | (unfold maxLen; omega) | (simp [h3, h3_, h3__]; done) | (simp [h3, h3_, h3__]; omega))
    refine AW.wk [(0, AV.bool false)] [] 1 (by simp [h3, h3_, h3__]) (by simp [h3, h3_, h3__]) (by simp) ?_
    simp only [Option.some.injEq] at hF
    subst hF
    refine AW.ret (hQ _ _ _ ?_ (matchO_0 ?_)).1
    · simp [Try.f48, h3, h3_, h3__]
    · simp [h3, h3_, h3__]
set_option maxHeartbeats 4000000 in
theorem w_roster_Join_1 (k : Nat) (v0 : Int) (v1 : (List Bool)) (v2 : (List Bool)) (v3 : Bool) (hF : roster_Join_1 k v0 v1 v2 = some v3) :
    FCall Try.prog 93 [AV.int .i64 v0, AV.ptr 0 0, AV.ptr 1 0] [.cells (List.map AV.bool v1), .cells (List.map AV.bool v2)] (AV.bool v3) [some (.cells (List.map AV.bool v1)), some (.cells (List.map AV.bool v2))] := by
  unfold roster_Join_1 at hF
  refine FCall.enter Try.func93 rfl (by simp) (by decide) (by simp) (by simp) (by simp) (by simp) (by simp) ?_
  intro c0 w0 Q h0 hQ
  refine AW.wk [(0, AV.int .i64 v0), (1, AV.ptr 0 0), (2, AV.ptr 1 0)] [(0, .cells (List.map AV.bool v1)), (1, .cells (List.map AV.bool v2))] 2 (by simp) (by simp) (by simp) ?_
  refine AW.seqR mixed [] [none] (by kernel_rfl) fun G3 R3 hG3 hR3 => ?_
  try simp
  repeat' apply And.intro
  any_goals (first | exact hG3 _ (by kernel_rfl) | refine hR3 _ _ _ ?_ | omega | (unfold maxLen; omega) | (simp; done) | (simp; omega))
  refine AW.wk [(0, AV.int .i64 v0), (1, AV.ptr 0 0), (2, AV.ptr 1 0)] [(0, .cells (List.map AV.bool v1)), (1, .cells (List.map AV.bool v2))] 2 (by simp) (by simp) (by simp) ?_
  refine AW.seqR mixed [] [none, none, none, none, some (8, false), some (8, false), some (8, false), none, none] (by kernel_rfl) fun G4 R4 hG4 hR4 => ?_
  obtain ⟨⟨h1, h3, h2⟩, hF⟩ := chk_elim hF
  have h2_ := ne_of_lt h2
  obtain ⟨v4, h4, h5, h6, hF⟩ := idx_elim hF
  have h6_ := get_of h6
  try simp at h6_
  have h5_ := h5
  try simp at h5_
  by_cases h7 : v4 = true
  · replace hF := ite_t h7 hF
    have h7_ := h7
    try simp at h7_
    try simp [h1, h2, h3, h2_, h4, h5, h6, h6_, h5_, h7, h7_]
    repeat' apply And.intro
    any_goals (first | exact hG4 _ (by kernel_rfl) | refine hR4 _ _ _ ?_ | omega | (unfold maxLen; omega) | (simp [h1, h2, h3, h2_, h4, h5, h6, h6_, h5_, h7, h7_]; done) | (simp [h1, h2, h3, h2_, h4, h5, h6, h6_, h5_, h7, h7_]; omega))
    refine AW.wk [(4, AV.bool true)] [(0, .cells (List.map AV.bool v1)), (1, .cells (List.map AV.bool v2))] 2 (by simp [h1, h2, h3, h2_, h4, h5, h6, h6_, h5_, h7, h7_]) (by simp [h1, h2, h3, h2_, h4, h5, h6, h6_, h5_, h7, h7_]) (by simp) ?_
    simp only [Option.some.injEq] at hF
    subst hF
    refine AW.ret (hQ _ _ _ ?_ (matchO_0 ?_)).1
    · simp [Try.f93, h1, h2, h3, h2_, h4, h5, h6, h6_, h5_, h7, h7_]
    · simp [h1, h2, h3, h2_, h4, h5, h6, h6_, h5_, h7, h7_]
  · replace hF := ite_f h7 hF
    have h7_ := h7
    try simp at h7_
    obtain ⟨⟨h8, h10, h9⟩, hF⟩ := chk_elim hF
    have h9_ := ne_of_lt h9
    obtain ⟨v5, h11, h12, h13, hF⟩ := idx_elim hF
    have h13_ := get_of h13
    try simp at h13_
    have h12_ := h12
    try simp at h12_
    try simp [h1, h2, h3, h2_, h4, h5, h6, h6_, h5_, h7, h7_, h8, h9, h10, h9_, h11, h12, h13, h13_, h12_]
    repeat' apply And.intro
    any_goals (first | exact hG4 _ (by kernel_rfl) | refine hR4 _ _ _ ?_ | omega | (unfold maxLen; omega) | (simp [h1, h2, h3, h2_, h4, h5, h6, h6_, h5_, h7, h7_, h8, h9, h10, h9_, h11, h12, h13, h13_, h12_]; done) | (simp [h1, h2, h3, h2_, h4, h5, h6, h6_, h5_, h7, h7_, h8, h9, h10, h9_, h11, h12, h13, h13_, h12_]; omega))
    refine AW.wk [(4, AV.bool v5)] [(0, .cells (List.map AV.bool v1)), (1, .cells (List.map AV.bool v2))] 2 (by simp [h1, h2, h3, h2_, h4, h5, h6, h6_, h5_, h7, h7_, h8, h9, h10, h9_, h11, h12, h13, h13_, h12_]) (by simp [h1, h2, h3, h2_, h4, h5, h6, h6_, h5_, h7, h7_, h8, h9, h10, h9_, h11, h12, h13, h13_, h12_]) (by simp) ?_
    simp only [Option.some.injEq] at hF
    subst hF
    refine AW.ret (hQ _ _ _ ?_ (matchO_0 ?_)).1
    · simp [Try.f93, h1, h2, h3, h2_, h4, h5, h6, h6_, h5_, h7, h7_, h8, h9, h10, h9_, h11, h12, h13, h13_, h12_]
    · simp [h1, h2, h3, h2_, h4, h5, h6, h6_, h5_, h7, h7_, h8, h9, h10, h9_, h11, h12, h13, h13_, h12_]
set_option maxHeartbeats 4000000 in
theorem w_roster_keys_Join_1 (k : Nat) (v0 : (List Bool)) (v1 : (List Bool)) (v2 : (List Int)) (hF : roster_keys_Join_1 k v0 v1 = some v2) :
    FCall Try.prog 92 [AV.fn 93 [AV.ptr 0 0, AV.ptr 1 0]] [.cells (List.map AV.bool v0), .cells (List.map AV.bool v1)] (AV.slc 2 0 1 v2.length false) [some (.cells (List.map AV.bool v0)), some (.cells (List.map AV.bool v1)), some (.grow (List.map (AV.int .i64) v2))] := by
  unfold roster_keys_Join_1 at hF
  refine FCall.enter Try.func92 rfl (by simp) (by decide) (by simp) (by simp) (by simp) (by simp) (by simp) ?_
  intro c0 w0 Q h0 hQ
  refine AW.wk [(0, AV.fn 93 [AV.ptr 0 0, AV.ptr 1 0])] [(0, .cells (List.map AV.bool v0)), (1, .cells (List.map AV.bool v1))] 2 (by simp) (by simp) (by simp) ?_
  refine AW.seqR mixed [] [none] (by kernel_rfl) fun G69 R69 hG69 hR69 => ?_
  try simp
  repeat' apply And.intro
  any_goals (first | exact hG69 _ (by kernel_rfl) | refine hR69 _ _ _ ?_ | omega | (unfold maxLen; omega) | (simp; done) | (simp; omega))
  refine AW.wk [(0, AV.fn 93 [AV.ptr 0 0, AV.ptr 1 0])] [(0, .cells (List.map AV.bool v0)), (1, .cells (List.map AV.bool v1))] 2 (by simp) (by simp) (by simp) ?_
  refine AW.seqR mixed [] [none] (by kernel_rfl) fun G70 R70 hG70 hR70 => ?_
  try simp
  repeat' apply And.intro
  any_goals (first | exact hG70 _ (by kernel_rfl) | refine hR70 _ _ _ ?_ | omega | (unfold maxLen; omega) | (simp; done) | (simp; omega))
  refine AW.wk [(0, AV.fn 93 [AV.ptr 0 0, AV.ptr 1 0]), (3, AV.lst true true (List.map (AV.int .i64) ([] : List Int)))] [(0, .cells (List.map AV.bool v0)), (1, .cells (List.map AV.bool v1))] 2 (by simp) (by simp) (by simp) ?_
  refine AW.seq fun K103 hK103 => ?_
  refine AW.seqR mixed [] [none] (by kernel_rfl) fun G104 R104 hG104 hR104 => ?_
  try simp
  repeat' apply And.intro
  any_goals (first | exact hG104 _ (by kernel_rfl) | refine hR104 _ _ _ ?_ | omega | (unfold maxLen; omega) | (simp; done) | (simp; omega))
  refine AW.wk [(0, AV.fn 93 [AV.ptr 0 0, AV.ptr 1 0]), (3, AV.lst true true (List.map (AV.int .i64) ([] : List Int))), (5, AV.int .i64 0)] [(0, .cells (List.map AV.bool v0)), (1, .cells (List.map AV.bool v1))] 2 (by simp) (by simp) (by simp) ?_
  refine AW.block ?_
  refine AW.own' 3 1 true (by simp) (by decide) ?_
  refine AW.loopF (α := (Int × (List Int))) (fun n (v3, v4) => roster_keys_Join_1.L1 k v0 v1 n v3 v4 = some v2) (fun (v3, v4) => [(0, AV.fn 93 [AV.ptr 0 0, AV.ptr 1 0]), (3, AV.slc 2 0 1 v4.length false), (5, AV.int .i64 v3)]) (fun (v3, v4) => [(0, .cells (List.map AV.bool v0)), (1, .cells (List.map AV.bool v1)), (2, .grow (List.map (AV.int .i64) v4))]) 3 k ((0, ([] : List Int))) hF (by simp) (by simp) (by simp) ?_
  rintro (_|n1) ⟨v3, v4⟩ hF K125 hK125
  · try dsimp only at hF
    rw [roster_keys_Join_1.L1] at hF; cases hF
  try dsimp only at hF
  rw [roster_keys_Join_1.L1] at hF
  refine AW.seqR mixed [] [none] (by kernel_rfl) fun G126 R126 hG126 hR126 => ?_
  try simp
  repeat' apply And.intro
  any_goals (first | exact hG126 _ (by kernel_rfl) | refine hR126 _ _ _ ?_ | omega | (unfold maxLen; omega) | (simp; done) | (simp; omega))
  refine AW.wk [(0, AV.fn 93 [AV.ptr 0 0, AV.ptr 1 0]), (3, AV.slc 2 0 1 v4.length false), (5, AV.int .i64 v3), (6, AV.bool (decide (v3 < 64)))] [(0, .cells (List.map AV.bool v0)), (1, .cells (List.map AV.bool v1)), (2, .grow (List.map (AV.int .i64) v4))] 3 (by simp) (by simp) (by simp) ?_
  refine AW.seq fun K127 hK127 => ?_
  by_cases h1 : v3 < 64
  · replace hF := ite_t h1 hF
    have h1_ := h1
    try simp at h1_
    refine AW.condT (by decide) (by first | (simp [h1, h1_]; done) | (simp [h1, h1_]; omega)) ?_
    refine AW.skip ?_
    refine hK127 _ _ _ ?_
    refine AW.midF (α := (List Int)) (fun v5 => roster_keys_Join_1.J2 k v3 (fun v3_ v4_ => roster_keys_Join_1.L1 k v0 v1 n1 v3_ v4_) v5 = some v2) (fun v5 => [(0, AV.fn 93 [AV.ptr 0 0, AV.ptr 1 0]), (3, AV.slc 2 0 1 v5.length false), (5, AV.int .i64 v3)]) (fun v5 => [(0, .cells (List.map AV.bool v0)), (1, .cells (List.map AV.bool v1)), (2, .grow (List.map (AV.int .i64) v5))]) 3 (fun K132 hK132 => ?_) ?_
    · refine AW.block ?_
      refine AW.seqR mixed [] [none, none] (by kernel_rfl) fun G133 R133 hG133 hR133 => ?_
      try simp [h1, h1_]
      repeat' apply And.intro
      any_goals (first | exact hG133 _ (by kernel_rfl) | refine hR133 _ _ _ ?_ | omega | (unfold maxLen; omega) | (simp [h1, h1_]; done) | (simp [h1, h1_]; omega))
      refine AW.wk [(0, AV.fn 93 [AV.ptr 0 0, AV.ptr 1 0]), (3, AV.slc 2 0 1 v4.length false), (4, AV.int .i64 v3), (5, AV.int .i64 v3)] [(0, .cells (List.map AV.bool v0)), (1, .cells (List.map AV.bool v1)), (2, .grow (List.map (AV.int .i64) v4))] 3 (by simp [h1, h1_]) (by simp [h1, h1_]) (by simp) ?_
      refine AW.seqR mixed [] [none, none, none] (by kernel_rfl) fun G134 R134 hG134 hR134 => ?_
      try simp [h1, h1_]
      repeat' apply And.intro
      try any_goals (first | omega | (unfold maxLen; omega) | (simp [h1, h1_]; done))
      obtain ⟨v6, h2, hF⟩ := bnd1_elim hF
      refine aCall_l (w_roster_Join_1 k _ _ _ _ h2) (by simp) [0, 1] [] [] rfl (.cons (.same (by simp [h1, h1_])) (.cons (.same (by simp [h1, h1_])) (.cons (.same (by simp [h1, h1_])) .nil))) (by simp [h1, h1_]) (by decide) (by simp) (by simp) (.inl rfl) (by simp) (by simp) ?_
      try simp [h1, h1_]
      repeat' apply And.intro
      any_goals (first | exact hG134 _ (by kernel_rfl) | refine hR134 _ _ _ ?_ | omega | (unfold maxLen; omega) | (simp [h1, h1_]; done) | (simp [h1, h1_]; omega))
      refine AW.wk [(0, AV.fn 93 [AV.ptr 0 0, AV.ptr 1 0]), (3, AV.slc 2 0 1 v4.length false), (4, AV.int .i64 v3), (5, AV.int .i64 v3), (10, AV.bool v6)] [(0, .cells (List.map AV.bool v0)), (1, .cells (List.map AV.bool v1)), (2, .grow (List.map (AV.int .i64) v4))] 3 (by simp [h1, h1_]) (by simp [h1, h1_]) (by simp) ?_
      by_cases h3 : v6 = true
      · replace hF := ite_t h3 hF
        have h3_ := h3
        try simp at h3_
        refine AW.condT (by decide) (by first | (simp [h1, h1_, h3, h3_]; done) | (simp [h1, h1_, h3, h3_]; omega)) ?_
        refine AW.region mixed [] [none, none, none, none, none] (by kernel_rfl) fun G135 R135 hG135 hR135 => ?_
        obtain ⟨h4, hF⟩ := chk_elim hF
        have h4_ := h4
        try simp at h4_
        try simp [h1, h1_, h3, h3_, h4]
        repeat' apply And.intro
        any_goals (first | exact hG135 _ (by kernel_rfl) | refine hR135 _ _ _ ?_ | omega | (unfold maxLen; omega) | (simp [h1, h1_, h3, h3_, h4]; done) | (simp [h1, h1_, h3, h3_, h4]; omega))
        refine hK132 _ _ _ ?_
        refine Can.weak [(0, AV.fn 93 [AV.ptr 0 0, AV.ptr 1 0]), (3, AV.slc 3 0 1 ((v4 ++ ([v3] : List Int)).length) false), (5, AV.int .i64 v3)] [(0, .cells (List.map AV.bool v0)), (1, .cells (List.map AV.bool v1)), (3, .grow (List.map (AV.int .i64) (v4 ++ ([v3] : List Int))))] 4 (by simp [h1, h1_, h3, h3_, h4]) (by simp [h1, h1_, h3, h3_, h4]) (by simp) ?_
        refine Can.ren (m := 2) h0 [(0, 0), (1, 1), (2, 3)] [(0, AV.fn 93 [AV.ptr 0 0, AV.ptr 1 0]), (3, AV.slc 2 0 1 ((v4 ++ ([v3] : List Int)).length) false), (5, AV.int .i64 v3)] [(0, .cells (List.map AV.bool v0)), (1, .cells (List.map AV.bool v1)), (2, .grow (List.map (AV.int .i64) (v4 ++ ([v3] : List Int))))] 3 (by decide) (by decide) (by decide) rfl (by simp [h1, h1_, h3, h3_, h4]) (by simp [h1, h1_, h3, h3_, h4]) ?_
        exact Can.join (v4 ++ ([v3] : List Int)) hF (by simp [h1, h1_, h3, h3_, h4]) (by simp [h1, h1_, h3, h3_, h4]) (by simp)
      · replace hF := ite_f h3 hF
        have h3_ := h3
        try simp at h3_
        refine AW.condF (by decide) (by first | (simp [h1, h1_, h3, h3_]; done) | (simp [h1, h1_, h3, h3_]; omega)) ?_
        refine AW.skip ?_
        refine hK132 _ _ _ ?_
        exact Can.join (v4) hF (by simp [h1, h1_, h3, h3_]) (by simp [h1, h1_, h3, h3_]) (by simp)
    · rintro v5 hF
      try dsimp only at hF
      unfold roster_keys_Join_1.J2 at hF
      refine AW.region mixed [] [none, none] (by kernel_rfl) fun G131 R131 hG131 hR131 => ?_
      try simp [h1, h1_]
      repeat' apply And.intro
      any_goals (first | exact hG131 _ (by kernel_rfl) | refine hR131 _ _ _ ?_ | omega | (unfold maxLen; omega) | (simp [h1, h1_]; done) | (simp [h1, h1_]; omega))
      refine hK125 _ _ _ ?_
      refine Can.weak [(0, AV.fn 93 [AV.ptr 0 0, AV.ptr 1 0]), (3, AV.slc 2 0 1 v5.length false), (5, AV.int .i64 (IntKind.wrap .i64 (v3 + 1)))] [(0, .cells (List.map AV.bool v0)), (1, .cells (List.map AV.bool v1)), (2, .grow (List.map (AV.int .i64) v5))] 3 (by simp [h1, h1_]) (by simp [h1, h1_]) (by simp) ?_
      exact Can.next (k' := n1) ((IntKind.wrap .i64 (v3 + 1), v5)) (by omega) hF (by simp [h1, h1_]) (by simp [h1, h1_]) (by simp)
  · replace hF := ite_f h1 hF
    have h1_ := h1
    try simp at h1_
    refine AW.condF (by decide) (by first | (simp [h1, h1_]; done) | (simp [h1, h1_]; omega)) ?_
    refine AW.exit ?_
    try simp
    refine hK103 _ _ _ ?_
    refine AW.seqR mixed [] [none, none] (by kernel_rfl) fun G136 R136 hG136 hR136 => ?_
    try simp [h1, h1_]
    repeat' apply And.intro
    any_goals (first | exact hG136 _ (by kernel_rfl) | refine hR136 _ _ _ ?_ | omega | (unfold maxLen; omega) | (simp [h1, h1_]; done) | (simp [h1, h1_]; omega))
    refine AW.wk [(2, AV.slc 2 0 1 v4.length false)] [(0, .cells (List.map AV.bool v0)), (1, .cells (List.map AV.bool v1)), (2, .grow (List.map (AV.int .i64) v4))] 3 (by simp [h1, h1_]) (by simp [h1, h1_]) (by simp) ?_
    simp only [Option.some.injEq] at hF
    subst hF
    refine AW.ret (hQ _ _ _ ?_ (matchO_0 ?_)).1
    · simp [Try.f92, h1, h1_]
    · simp [h1, h1_]
set_option maxHeartbeats 4000000 in
theorem w_roster_Join (k : Nat) (v0 : (List Int)) (v1 : (List Int)) (v2 : (List Int)) (hF : roster_Join k v0 v1 = some v2) :
    FCall Try.prog 66 [AV.lst false false (List.map (AV.int .i64) v0), AV.lst false false (List.map (AV.int .i64) v1)] [] (AV.slc 0 0 1 v2.length false) [some (.grow (List.map (AV.int .i64) v2))] := by
  unfold roster_Join at hF
  refine FCall.enter Try.func66 rfl (by simp) (by decide) (by simp) (by simp) (by simp) (by simp) (by simp) ?_
  intro c0 w0 Q h0 hQ
  refine AW.wk [(0, AV.lst false false (List.map (AV.int .i64) v0)), (1, AV.lst false false (List.map (AV.int .i64) v1))] [] 0 (by simp) (by simp) (by simp) ?_
  refine AW.seqR mixed [] [none] (by kernel_rfl) fun G4 R4 hG4 hR4 => ?_
  try simp
  repeat' apply And.intro
  any_goals (first | exact hG4 _ (by kernel_rfl) | refine hR4 _ _ _ ?_ | omega | (unfold maxLen; omega) | (simp; done) | (simp; omega))
  refine AW.wk [(0, AV.lst false false (List.map (AV.int .i64) v0)), (1, AV.lst false false (List.map (AV.int .i64) v1))] [] 0 (by simp) (by simp) (by simp) ?_
  refine AW.seqR mixed [] [none, none, none, none, none, none, none, none] (by kernel_rfl) fun G5 R5 hG5 hR5 => ?_
  try simp
  repeat' apply And.intro
  try any_goals (first | omega | (unfold maxLen; omega) | (simp; done))
  obtain ⟨v3, h1, hF⟩ := bnd1_elim hF
  refine aCall_l (w_roster_of k _ _ h1) (by simp) [] [] [] rfl (.cons (.same (by simp)) .nil) (by simp) (by decide) (by simp) (by simp) (.inl rfl) (by simp) (by simp) ?_
  try simp
  repeat' apply And.intro
  try any_goals (first | omega | (unfold maxLen; omega) | (simp; done))
  obtain ⟨v4, h2, hF⟩ := bnd1_elim hF
  refine aCall_l (w_roster_of k _ _ h2) (by simp) [] [] [] rfl (.cons (.same (by simp)) .nil) (by simp) (by decide) (by simp) (by simp) (.inl rfl) (by simp) (by simp) ?_
  obtain ⟨h3, hF⟩ := chk_elim hF
  obtain ⟨h4, hF⟩ := chk_elim hF
  try simp [h3, h4]
  repeat' apply And.intro
  any_goals (first | exact hG5 _ (by kernel_rfl) | refine hR5 _ _ _ ?_ | omega | (unfold maxLen; omega) | (simp [h3, h4]; done) | (simp [h3, h4]; omega))
  refine AW.wk [(5, AV.ptr 0 0), (6, AV.ptr 1 0)] [(0, .cells (List.map AV.bool v3)), (1, .cells (List.map AV.bool v4))] 2 (by simp [h3, h4]) (by simp [h3, h4]) (by simp) ?_
  refine AW.seqR mixed [] [none, none, none] (by kernel_rfl) fun G6 R6 hG6 hR6 => ?_
  try simp [h3, h4]
  repeat' apply And.intro
  try any_goals (first | omega | (unfold maxLen; omega) | (simp [h3, h4]; done))
  obtain ⟨v5, h5, hF⟩ := bnd1_elim hF
  refine aCall_l (w_roster_keys_Join_1 k _ _ _ h5) (by simp) [0, 1] [] [] rfl (.cons (.same (by simp [h3, h4])) .nil) (by simp [h3, h4]) (by decide) (by simp) (by simp) (.inl rfl) (by simp) (by simp) ?_
  try simp [h3, h4]
  repeat' apply And.intro
  any_goals (first | exact hG6 _ (by kernel_rfl) | refine hR6 _ _ _ ?_ | omega | (unfold maxLen; omega) | (simp [h3, h4]; done) | (simp [h3, h4]; omega))
  refine AW.wk [(4, AV.slc 2 0 1 v5.length false)] [(2, .grow (List.map (AV.int .i64) v5))] 3 (by simp [h3, h4]) (by simp [h3, h4]) (by simp) ?_
  refine AW.rnm (m := 0) h0 [(0, 2)] [(4, AV.slc 0 0 1 v5.length false)] [(0, .grow (List.map (AV.int .i64) v5))] 1 (by decide) (by decide) (by decide) rfl (by simp [h3, h4]) (by simp [h3, h4]) ?_
  simp only [Option.some.injEq] at hF
  subst hF
  refine AW.ret (hQ _ _ _ ?_ (matchO_0 ?_)).1
  · simp [Try.f66, h3, h4]
  · simp [h3, h4]
set_option maxHeartbeats 4000000 in
theorem w_roster_Minus_1 (k : Nat) (v0 : Int) (v1 : (List Bool)) (v2 : (List Bool)) (v3 : Bool) (hF : roster_Minus_1 k v0 v1 v2 = some v3) :
    FCall Try.prog 94 [AV.int .i64 v0, AV.ptr 0 0, AV.ptr 1 0] [.cells (List.map AV.bool v1), .cells (List.map AV.bool v2)] (AV.bool v3) [some (.cells (List.map AV.bool v1)), some (.cells (List.map AV.bool v2))] := by
  unfold roster_Minus_1 at hF
  refine FCall.enter Try.func94 rfl (by simp) (by decide) (by simp) (by simp) (by simp) (by simp) (by simp) ?_
  intro c0 w0 Q h0 hQ
  refine AW.wk [(0, AV.int .i64 v0), (1, AV.ptr 0 0), (2, AV.ptr 1 0)] [(0, .cells (List.map AV.bool v1)), (1, .cells (List.map AV.bool v2))] 2 (by simp) (by simp) (by simp) ?_
  refine AW.seqR mixed [] [none] (by kernel_rfl) fun G3 R3 hG3 hR3 => ?_
  try simp
  repeat' apply And.intro
  any_goals (first | exact hG3 _ (by kernel_rfl) | refine hR3 _ _ _ ?_ | omega | (unfold maxLen; omega) | (simp; done) | (simp; omega))
  refine AW.wk [(0, AV.int .i64 v0), (1, AV.ptr 0 0), (2, AV.ptr 1 0)] [(0, .cells (List.map AV.bool v1)), (1, .cells (List.map AV.bool v2))] 2 (by simp) (by simp) (by simp) ?_
  refine AW.seqR mixed [] [none, none, none, none, some (8, true), some (8, true), some (8, true), some (8, true), none, none] (by kernel_rfl) fun G4 R4 hG4 hR4 => ?_
  obtain ⟨⟨h1, h3, h2⟩, hF⟩ := chk_elim hF
  have h2_ := ne_of_lt h2
  obtain ⟨v4, h4, h5, h6, hF⟩ := idx_elim hF
  have h6_ := get_of h6
  try simp at h6_
  have h5_ := h5
  try simp at h5_
  by_cases h7 : v4 = true
  · replace hF := ite_t h7 hF
    have h7_ := h7
    try simp at h7_
    obtain ⟨⟨h8, h10, h9⟩, hF⟩ := chk_elim hF
    have h9_ := ne_of_lt h9
    obtain ⟨v5, h11, h12, h13, hF⟩ := idx_elim hF
    have h13_ := get_of h13
    try simp at h13_
    have h12_ := h12
    try simp at h12_
    try simp [h1, h2, h3, h2_, h4, h5, h6, h6_, h5_, h7, h7_, h8, h9, h10, h9_, h11, h12, h13, h13_, h12_]
    repeat' apply And.intro
    any_goals (first | exact hG4 _ (by kernel_rfl) | refine hR4 _ _ _ ?_ | omega | (unfold maxLen; omega) | (simp [h1, h2, h3, h2_, h4, h5, h6, h6_, h5_, h7, h7_, h8, h9, h10, h9_, h11, h12, h13, h13_, h12_]; done) | (simp [h1, h2, h3, h2_, h4, h5, h6, h6_, h5_, h7, h7_, h8, h9, h10, h9_, h11, h12, h13, h13_, h12_]; omega))
    refine AW.wk [(4, AV.bool (!v5))] [(0, .cells (List.map AV.bool v1)), (1, .cells (List.map AV.bool v2))] 2 (by simp [h1, h2, h3, h2_, h4, h5, h6, h6_, h5_, h7, h7_, h8, h9, h10, h9_, h11, h12, h13, h13_, h12_]) (by simp [h1, h2, h3, h2_, h4, h5, h6, h6_, h5_, h7, h7_, h8, h9, h10, h9_, h11, h12, h13, h13_, h12_]) (by simp) ?_
    simp only [Option.some.injEq] at hF
    subst hF
    refine AW.ret (hQ _ _ _ ?_ (matchO_0 ?_)).1
    · simp [Try.f94, h1, h2, h3, h2_, h4, h5, h6, h6_, h5_, h7, h7_, h8, h9, h10, h9_, h11, h12, h13, h13_, h12_]
    · simp [h1, h2, h3, h2_, h4, h5, h6, h6_, h5_, h7, h7_, h8, h9, h10, h9_, h11, h12, h13, h13_, h12_]
  · replace hF := ite_f h7 hF
    have h7_ := h7
    try simp at h7_
    try simp [h1, h2, h3, h2_, h4, h5, h6, h6_, h5_, h7, h7_]
    repeat' apply And.intro
    any_goals (first | exact hG4 _ (by kernel_rfl) | refine hR4 _ _ _ ?_ | omega | (unfold maxLen; omega) | (simp [h1, h2, h3, h2_, h4, h5, h6, h6_, h5_, h7, h7_]; done) | (simp [h1, h2, h3, h2_, h4, h5, h6, h6_, h5_, h7, h7_]; omega))
    refine AW.wk [(4, AV.bool false)] [(0, .cells (List.map AV.bool v1)), (1, .cells (List.map AV.bool v2))] 2 (by simp [h1, h2, h3, h2_, h4, h5, h6, h6_, h5_, h7, h7_]) (by simp [h1, h2, h3, h2_, h4, h5, h6, h6_, h5_, h7, h7_]) (by simp) ?_
    simp only [Option.some.injEq] at hF
    subst hF
    refine AW.ret (hQ _ _ _ ?_ (matchO_0 ?_)).1
    · simp [Try.f94, h1, h2, h3, h2_, h4, h5, h6, h6_, h5_, h7, h7_]
    · simp [h1, h2, h3, h2_, h4, h5, h6, h6_, h5_, h7, h7_]
set_option maxHeartbeats 4000000 in
theorem w_roster_keys_Minus_1 (k : Nat) (v0 : (List Bool)) (v1 : (List Bool)) (v2 : (List Int)) (hF : roster_keys_Minus_1 k v0 v1 = some v2) :
    FCall Try.prog 92 [AV.fn 94 [AV.ptr 0 0, AV.ptr 1 0]] [.cells (List.map AV.bool v0), .cells (List.map AV.bool v1)] (AV.slc 2 0 1 v2.length false) [some (.cells (List.map AV.bool v0)), some (.cells (List.map AV.bool v1)), some (.grow (List.map (AV.int .i64) v2))] := by
  unfold roster_keys_Minus_1 at hF
  refine FCall.enter Try.func92 rfl (by simp) (by decide) (by simp) (by simp) (by simp) (by simp) (by simp) ?_
  intro c0 w0 Q h0 hQ
  refine AW.wk [(0, AV.fn 94 [AV.ptr 0 0, AV.ptr 1 0])] [(0, .cells (List.map AV.bool v0)), (1, .cells (List.map AV.bool v1))] 2 (by simp) (by simp) (by simp) ?_
  refine AW.seqR mixed [] [none] (by kernel_rfl) fun G69 R69 hG69 hR69 => ?_
  try simp
  repeat' apply And.intro
  any_goals (first | exact hG69 _ (by kernel_rfl) | refine hR69 _ _ _ ?_ | omega | (unfold maxLen; omega) | (simp; done) | (simp; omega))
  refine AW.wk [(0, AV.fn 94 [AV.ptr 0 0, AV.ptr 1 0])] [(0, .cells (List.map AV.bool v0)), (1, .cells (List.map AV.bool v1))] 2 (by simp) (by simp) (by simp) ?_
  refine AW.seqR mixed [] [none] (by kernel_rfl) fun G70 R70 hG70 hR70 => ?_
  try simp
  repeat' apply And.intro
  any_goals (first | exact hG70 _ (by kernel_rfl) | refine hR70 _ _ _ ?_ | omega | (unfold maxLen; omega) | (simp; done) | (simp; omega))
  refine AW.wk [(0, AV.fn 94 [AV.ptr 0 0, AV.ptr 1 0]), (3, AV.lst true true (List.map (AV.int .i64) ([] : List Int)))] [(0, .cells (List.map AV.bool v0)), (1, .cells (List.map AV.bool v1))] 2 (by simp) (by simp) (by simp) ?_
  refine AW.seq fun K103 hK103 => ?_
  refine AW.seqR mixed [] [none] (by kernel_rfl) fun G104 R104 hG104 hR104 => ?_
  try simp
  repeat' apply And.intro
  any_goals (first | exact hG104 _ (by kernel_rfl) | refine hR104 _ _ _ ?_ | omega | (unfold maxLen; omega) | (simp; done) | (simp; omega))
  refine AW.wk [(0, AV.fn 94 [AV.ptr 0 0, AV.ptr 1 0]), (3, AV.lst true true (List.map (AV.int .i64) ([] : List Int))), (5, AV.int .i64 0)] [(0, .cells (List.map AV.bool v0)), (1, .cells (List.map AV.bool v1))] 2 (by simp) (by simp) (by simp) ?_
  refine AW.block ?_
  refine AW.own' 3 1 true (by simp) (by decide) ?_
  refine AW.loopF (α := (Int × (List Int))) (fun n (v3, v4) => roster_keys_Minus_1.L1 k v0 v1 n v3 v4 = some v2) (fun (v3, v4) => [(0, AV.fn 94 [AV.ptr 0 0, AV.ptr 1 0]), (3, AV.slc 2 0 1 v4.length false), (5, AV.int .i64 v3)]) (fun (v3, v4) => [(0, .cells (List.map AV.bool v0)), (1, .cells (List.map AV.bool v1)), (2, .grow (List.map (AV.int .i64) v4))]) 3 k ((0, ([] : List Int))) hF (by simp) (by simp) (by simp) ?_
  rintro (_|n1) ⟨v3, v4⟩ hF K125 hK125
  · try dsimp only at hF
    rw [roster_keys_Minus_1.L1] at hF; cases hF
  try dsimp only at hF
  rw [roster_keys_Minus_1.L1] at hF
  refine AW.seqR mixed [] [none] (by kernel_rfl) fun G126 R126 hG126 hR126 => ?_
  try simp
  repeat' apply And.intro
  any_goals (first | exact hG126 _ (by kernel_rfl) | refine hR126 _ _ _ ?_ | omega | (unfold maxLen; omega) | (simp; done) | (simp; omega))
  refine AW.wk [(0, AV.fn 94 [AV.ptr 0 0, AV.ptr 1 0]), (3, AV.slc 2 0 1 v4.length false), (5, AV.int .i64 v3), (6, AV.bool (decide (v3 < 64)))] [(0, .cells (List.map AV.bool v0)), (1, .cells (List.map AV.bool v1)), (2, .grow (List.map (AV.int .i64) v4))] 3 (by simp) (by simp) (by simp) ?_
  refine AW.seq fun K127 hK127 => ?_
  by_cases h1 : v3 < 64
  · replace hF := ite_t h1 hF
    have h1_ := h1
    try simp at h1_
    refine AW.condT (by decide) (by first | (simp [h1, h1_]; done) | (simp [h1, h1_]; omega)) ?_
    refine AW.skip ?_
    refine hK127 _ _ _ ?_
    refine AW.midF (α := (List Int)) (fun v5 => roster_keys_Minus_1.J2 k v3 (fun v3_ v4_ => roster_keys_Minus_1.L1 k v0 v1 n1 v3_ v4_) v5 = some v2) (fun v5 => [(0, AV.fn 94 [AV.ptr 0 0, AV.ptr 1 0]), (3, AV.slc 2 0 1 v5.length false), (5, AV.int .i64 v3)]) (fun v5 => [(0, .cells (List.map AV.bool v0)), (1, .cells (List.map AV.bool v1)), (2, .grow (List.map (AV.int .i64) v5))]) 3 (fun K132 hK132 => ?_) ?_
    · refine AW.block ?_
      refine AW.seqR mixed [] [none, none] (by kernel_rfl) fun G133 R133 hG133 hR133 => ?_
      try simp [h1, h1_]
      repeat' apply And.intro
      any_goals (first | exact hG133 _ (by kernel_rfl) | refine hR133 _ _ _ ?_ | omega | (unfold maxLen; omega) | (simp [h1, h1_]; done) | (simp [h1, h1_]; omega))
      refine AW.wk [(0, AV.fn 94 [AV.ptr 0 0, AV.ptr 1 0]), (3, AV.slc 2 0 1 v4.length false), (4, AV.int .i64 v3), (5, AV.int .i64 v3)] [(0, .cells (List.map AV.bool v0)), (1, .cells (List.map AV.bool v1)), (2, .grow (List.map (AV.int .i64) v4))] 3 (by simp [h1, h1_]) (by simp [h1, h1_]) (by simp) ?_
      refine AW.seqR mixed [] [none, none, none] (by kernel_rfl) fun G134 R134 hG134 hR134 => ?_
      try simp [h1, h1_]
      repeat' apply And.intro
      try any_goals (first | omega | (unfold maxLen; omega) | (simp [h1, h1_]; done))
      obtain ⟨v6, h2, hF⟩ := bnd1_elim hF
      refine aCall_l (w_roster_Minus_1 k _ _ _ _ h2) (by simp) [0, 1] [] [] rfl (.cons (.same (by simp [h1, h1_])) (.cons (.same (by simp [h1, h1_])) (.cons (.same (by simp [h1, h1_])) .nil))) (by simp [h1, h1_]) (by decide) (by simp) (by simp) (.inl rfl) (by simp) (by simp) ?_
      try simp [h1, h1_]
      repeat' apply And.intro
      any_goals (first | exact hG134 _ (by kernel_rfl) | refine hR134 _ _ _ ?_ | omega | (unfold maxLen; omega) | (simp [h1, h1_]; done) | (simp [h1, h1_]; omega))
      refine AW.wk [(0, AV.fn 94 [AV.ptr 0 0, AV.ptr 1 0]), (3, AV.slc 2 0 1 v4.length false), (4, AV.int .i64 v3), (5, AV.int .i64 v3), (10, AV.bool v6)] [(0, .cells (List.map AV.bool v0)), (1, .cells (List.map AV.bool v1)), (2, .grow (List.map (AV.int .i64) v4))] 3 (by simp [h1, h1_]) (by simp [h1, h1_]) (by simp) ?_
      by_cases h3 : v6 = true
      · replace hF := ite_t h3 hF
        have h3_ := h3
        try simp at h3_
        refine AW.condT (by decide) (by first | (simp [h1, h1_, h3, h3_]; done) | (simp [h1, h1_, h3, h3_]; omega)) ?_
        refine AW.region mixed [] [none, none, none, none, none] (by kernel_rfl) fun G135 R135 hG135 hR135 => ?_
        obtain ⟨h4, hF⟩ := chk_elim hF
        have h4_ := h4
        try simp at h4_
        try simp [h1, h1_, h3, h3_, h4]
        repeat' apply And.intro
        any_goals (first | exact hG135 _ (by kernel_rfl) | refine hR135 _ _ _ ?_ | omega | (unfold maxLen; omega) | (simp [h1, h1_, h3, h3_, h4]; done) | (simp [h1, h1_, h3, h3_, h4]; omega))
        refine hK132 _ _ _ ?_
        refine Can.weak [(0, AV.fn 94 [AV.ptr 0 0, AV.ptr 1 0]), (3, AV.slc 3 0 1 ((v4 ++ ([v3] : List Int)).length) false), (5, AV.int .i64 v3)] [(0, .cells (List.map AV.bool v0)), (1, .cells (List.map AV.bool v1)), (3, .grow (List.map (AV.int .i64) (v4 ++ ([v3] : List Int))))] 4 (by simp [h1, h1_, h3, h3_, h4]) (by simp [h1, h1_, h3, h3_, h4]) (by simp) ?_
        refine Can.ren (m := 2) h0 [(0, 0), (1, 1), (2, 3)] [(0, AV.fn 94 [AV.ptr 0 0, AV.ptr 1 0]), (3, AV.slc 2 0 1 ((v4 ++ ([v3] : List Int)).length) false), (5, AV.int .i64 v3)] [(0, .cells (List.map AV.bool v0)), (1, .cells (List.map AV.bool v1)), (2, .grow (List.map (AV.int .i64) (v4 ++ ([v3] : List Int))))] 3 (by decide) (by decide) (by decide) rfl (by simp [h1, h1_, h3, h3_, h4]) (by simp [h1, h1_, h3, h3_, h4]) ?_
        exact Can.join (v4 ++ ([v3] : List Int)) hF (by simp [h1, h1_, h3, h3_, h4]) (by simp [h1, h1_, h3, h3_, h4]) (by simp)
      · replace hF := ite_f h3 hF
        have h3_ := h3
        try simp at h3_
        refine AW.condF (by decide) (by first | (simp [h1, h1_, h3, h3_]; done) | (simp [h1, h1_, h3, h3_]; omega)) ?_
        refine AW.skip ?_
        refine hK132 _ _ _ ?_
        exact Can.join (v4) hF (by simp [h1, h1_, h3, h3_]) (by simp [h1, h1_, h3, h3_]) (by simp)
    · rintro v5 hF
      try dsimp only at hF
      unfold roster_keys_Minus_1.J2 at hF
      refine AW.region mixed [] [none, none] (by kernel_rfl) fun G131 R131 hG131 hR131 => ?_
      try simp [h1, h1_]
      repeat' apply And.intro
      any_goals (first | exact hG131 _ (by kernel_rfl) | refine hR131 _ _ _ ?_ | omega | (unfold maxLen; omega) | (simp [h1, h1_]; done) | (simp [h1, h1_]; omega))
      refine hK125 _ _ _ ?_
      refine Can.weak [(0, AV.fn 94 [AV.ptr 0 0, AV.ptr 1 0]), (3, AV.slc 2 0 1 v5.length false), (5, AV.int .i64 (IntKind.wrap .i64 (v3 + 1)))] [(0, .cells (List.map AV.bool v0)), (1, .cells (List.map AV.bool v1)), (2, .grow (List.map (AV.int .i64) v5))] 3 (by simp [h1, h1_]) (by simp [h1, h1_]) (by simp) ?_
      exact Can.next (k' := n1) ((IntKind.wrap .i64 (v3 + 1), v5)) (by omega) hF (by simp [h1, h1_]) (by simp [h1, h1_]) (by simp)
  · replace hF := ite_f h1 hF
    have h1_ := h1
    try simp at h1_
    refine AW.condF (by decide) (by first | (simp [h1, h1_]; done) | (simp [h1, h1_]; omega)) ?_
    refine AW.exit ?_
    try simp
    refine hK103 _ _ _ ?_
    refine AW.seqR mixed [] [none, none] (by kernel_rfl) fun G136 R136 hG136 hR136 => ?_
    try simp [h1, h1_]
    repeat' apply And.intro
    any_goals (first | exact hG136 _ (by kernel_rfl) | refine hR136 _ _ _ ?_ | omega | (unfold maxLen; omega) | (simp [h1, h1_]; done) | (simp [h1, h1_]; omega))
    refine AW.wk [(2, AV.slc 2 0 1 v4.length false)] [(0, .cells (List.map AV.bool v0)), (1, .cells (List.map AV.bool v1)), (2, .grow (List.map (AV.int .i64) v4))] 3 (by simp [h1, h1_]) (by simp [h1, h1_]) (by simp) ?_
    simp only [Option.some.injEq] at hF
    subst hF
    refine AW.ret (hQ _ _ _ ?_ (matchO_0 ?_)).1
    · simp [Try.f92, h1, h1_]
    · simp [h1, h1_]
set_option maxHeartbeats 4000000 in
theorem w_roster_Minus (k : Nat) (v0 : (List Int)) (v1 : (List Int)) (v2 : (List Int)) (hF : roster_Minus k v0 v1 = some v2) :
    FCall Try.prog 67 [AV.lst false false (List.map (AV.int .i64) v0), AV.lst false false (List.map (AV.int .i64) v1)] [] (AV.slc 0 0 1 v2.length false) [some (.grow (List.map (AV.int .i64) v2))] := by
  unfold roster_Minus at hF
  refine FCall.enter Try.func67 rfl (by simp) (by decide) (by simp) (by simp) (by simp) (by simp) (by simp) ?_
  intro c0 w0 Q h0 hQ
  refine AW.wk [(0, AV.lst false false (List.map (AV.int .i64) v0)), (1, AV.lst false false (List.map (AV.int .i64) v1))] [] 0 (by simp) (by simp) (by simp) ?_
  refine AW.seqR mixed [] [none] (by kernel_rfl) fun G4 R4 hG4 hR4 => ?_
  try simp
  repeat' apply And.intro
  any_goals (first | exact hG4 _ (by kernel_rfl) | refine hR4 _ _ _ ?_ | omega | (unfold maxLen; omega) | (simp; done) | (simp; omega))
  refine AW.wk [(0, AV.lst false false (List.map (AV.int .i64) v0)), (1, AV.lst false false (List.map (AV.int .i64) v1))] [] 0 (by simp) (by simp) (by simp) ?_
  refine AW.seqR mixed [] [none, none, none, none, none, none, none, none] (by kernel_rfl) fun G5 R5 hG5 hR5 => ?_
  try simp
  repeat' apply And.intro
  try any_goals (first | omega | (unfold maxLen; omega) | (simp; done))
  obtain ⟨v3, h1, hF⟩ := bnd1_elim hF
  refine aCall_l (w_roster_of k _ _ h1) (by simp) [] [] [] rfl (.cons (.same (by simp)) .nil) (by simp) (by decide) (by simp) (by simp) (.inl rfl) (by simp) (by simp) ?_
  try simp
  repeat' apply And.intro
  try any_goals (first | omega | (unfold maxLen; omega) | (simp; done))
  obtain ⟨v4, h2, hF⟩ := bnd1_elim hF
  refine aCall_l (w_roster_of k _ _ h2) (by simp) [] [] [] rfl (.cons (.same (by simp)) .nil) (by simp) (by decide) (by simp) (by simp) (.inl rfl) (by simp) (by simp) ?_
  obtain ⟨h3, hF⟩ := chk_elim hF
  obtain ⟨h4, hF⟩ := chk_elim hF
  try simp [h3, h4]
  repeat' apply And.intro
  any_goals (first | exact hG5 _ (by kernel_rfl) | refine hR5 _ _ _ ?_ | omega | (unfold maxLen; omega) | (simp [h3, h4]; done) | (simp [h3, h4]; omega))
  refine AW.wk [(5, AV.ptr 0 0), (6, AV.ptr 1 0)] [(0, .cells (List.map AV.bool v3)), (1, .cells (List.map AV.bool v4))] 2 (by simp [h3, h4]) (by simp [h3, h4]) (by simp) ?_
  refine AW.seqR mixed [] [none, none, none] (by kernel_rfl) fun G6 R6 hG6 hR6 => ?_
  try simp [h3, h4]
  repeat' apply And.intro
  try any_goals (first | omega | (unfold maxLen; omega) | (simp [h3, h4]; done))
  obtain ⟨v5, h5, hF⟩ := bnd1_elim hF
  refine aCall_l (w_roster_keys_Minus_1 k _ _ _ h5) (by simp) [0, 1] [] [] rfl (.cons (.same (by simp [h3, h4])) .nil) (by simp [h3, h4]) (by decide) (by simp) (by simp) (.inl rfl) (by simp) (by simp) ?_
  try simp [h3, h4]
  repeat' apply And.intro
  any_goals (first | exact hG6 _ (by kernel_rfl) | refine hR6 _ _ _ ?_ | omega | (unfold maxLen; omega) | (simp [h3, h4]; done) | (simp [h3, h4]; omega))
  refine AW.wk [(4, AV.slc 2 0 1 v5.length false)] [(2, .grow (List.map (AV.int .i64) v5))] 3 (by simp [h3, h4]) (by simp [h3, h4]) (by simp) ?_
  refine AW.rnm (m := 0) h0 [(0, 2)] [(4, AV.slc 0 0 1 v5.length false)] [(0, .grow (List.map (AV.int .i64) v5))] 1 (by decide) (by decide) (by decide) rfl (by simp [h3, h4]) (by simp [h3, h4]) ?_
  simp only [Option.some.injEq] at hF
  subst hF
  refine AW.ret (hQ _ _ _ ?_ (matchO_0 ?_)).1
  · simp [Try.f67, h3, h4]
  · simp [h3, h4]
set_option maxHeartbeats 4000000 in
theorem w_slices_Index_int_int (k : Nat) (v0 : (List Int)) (v1 : Int) (v2 : Int) (hF : slices_Index_int_int k v0 v1 = some v2) :
    FCall Try.prog 102 [AV.lst false false (List.map (AV.int .i64) v0), AV.int .i64 v1] [] (AV.int .i64 v2) [] := by
  unfold slices_Index_int_int at hF
  refine FCall.enter Try.func102 rfl (by simp) (by decide) (by simp) (by simp) (by simp) (by simp) (by simp) ?_
  intro c0 w0 Q h0 hQ
  refine AW.wk [(0, AV.lst false false (List.map (AV.int .i64) v0)), (1, AV.int .i64 v1)] [] 0 (by simp) (by simp) (by simp) ?_
  refine AW.seqR mixed [] [none] (by kernel_rfl) fun G68 R68 hG68 hR68 => ?_
  try simp
  repeat' apply And.intro
  any_goals (first | exact hG68 _ (by kernel_rfl) | refine hR68 _ _ _ ?_ | omega | (unfold maxLen; omega) | (simp; done) | (simp; omega))
  refine AW.wk [(0, AV.lst false false (List.map (AV.int .i64) v0)), (1, AV.int .i64 v1)] [] 0 (by simp) (by simp) (by simp) ?_
  refine AW.seq fun K101 hK101 => ?_
  refine AW.seqR mixed [] [none, none, none] (by kernel_rfl) fun G102 R102 hG102 hR102 => ?_
  try simp
  repeat' apply And.intro
  any_goals (first | exact hG102 _ (by kernel_rfl) | refine hR102 _ _ _ ?_ | omega | (unfold maxLen; omega) | (simp; done) | (simp; omega))
  refine AW.wk [(0, AV.lst false false (List.map (AV.int .i64) v0)), (1, AV.int .i64 v1), (7, AV.int .i64 (v0.length : Int)), (8, AV.int .i64 0)] [] 0 (by simp) (by simp) (by simp) ?_
  refine AW.block ?_
  refine AW.loopF (α := Int) (fun n v3 => slices_Index_int_int.L1 k v0 v1 n v3 = some v2) (fun v3 => [(0, AV.lst false false (List.map (AV.int .i64) v0)), (1, AV.int .i64 v1), (7, AV.int .i64 (v0.length : Int)), (8, AV.int .i64 v3)]) (fun v3 => []) 0 k (0) hF (by simp) (by simp) (by simp) ?_
  rintro (_|n1) v3 hF K123 hK123
  · try dsimp only at hF
    rw [slices_Index_int_int.L1] at hF; cases hF
  try dsimp only at hF
  rw [slices_Index_int_int.L1] at hF
  refine AW.seqR mixed [] [none] (by kernel_rfl) fun G124 R124 hG124 hR124 => ?_
  try simp
  repeat' apply And.intro
  any_goals (first | exact hG124 _ (by kernel_rfl) | refine hR124 _ _ _ ?_ | omega | (unfold maxLen; omega) | (simp; done) | (simp; omega))
  refine AW.wk [(0, AV.lst false false (List.map (AV.int .i64) v0)), (1, AV.int .i64 v1), (7, AV.int .i64 (v0.length : Int)), (8, AV.int .i64 v3), (9, AV.bool (decide (v3 < (v0.length : Int))))] [] 0 (by simp) (by simp) (by simp) ?_
  refine AW.seq fun K125 hK125 => ?_
  by_cases h1 : v3 < (v0.length : Int)
  · replace hF := ite_t h1 hF
    have h1_ := h1
    try simp at h1_
    refine AW.condT (by decide) (by first | (simp [h1, h1_]; done) | (simp [h1, h1_]; omega)) ?_
    refine AW.skip ?_
    refine hK125 _ _ _ ?_
    refine AW.seq fun K129 hK129 => ?_
    refine AW.block ?_
    refine AW.seqR mixed [] [none, none] (by kernel_rfl) fun G130 R130 hG130 hR130 => ?_
    try simp [h1, h1_]
    repeat' apply And.intro
    any_goals (first | exact hG130 _ (by kernel_rfl) | refine hR130 _ _ _ ?_ | omega | (unfold maxLen; omega) | (simp [h1, h1_]; done) | (simp [h1, h1_]; omega))
    refine AW.wk [(0, AV.lst false false (List.map (AV.int .i64) v0)), (1, AV.int .i64 v1), (5, AV.int .i64 v3), (7, AV.int .i64 (v0.length : Int)), (8, AV.int .i64 v3)] [] 0 (by simp [h1, h1_]) (by simp [h1, h1_]) (by simp) ?_
    refine AW.seqR mixed [] [none, none, none, none, none, none] (by kernel_rfl) fun G131 R131 hG131 hR131 => ?_
    obtain ⟨v4, h2, h3, h4, hF⟩ := idx_elim hF
    have h4_ := get_of h4
    try simp at h4_
    have h3_ := h3
    try simp at h3_
    try simp [h1, h1_, h2, h3, h4, h4_, h3_]
    repeat' apply And.intro
    any_goals (first | exact hG131 _ (by kernel_rfl) | refine hR131 _ _ _ ?_ | omega | (unfold maxLen; omega) | (simp [h1, h1_, h2, h3, h4, h4_, h3_]; done) | (simp [h1, h1_, h2, h3, h4, h4_, h3_]; omega))
    refine AW.wk [(0, AV.lst false false (List.map (AV.int .i64) v0)), (1, AV.int .i64 v1), (5, AV.int .i64 v3), (7, AV.int .i64 (v0.length : Int)), (8, AV.int .i64 v3), (16, AV.bool (v1 == v4))] [] 0 (by simp [h1, h1_, h2, h3, h4, h4_, h3_]) (by simp [h1, h1_, h2, h3, h4, h4_, h3_]) (by simp) ?_
    by_cases h5 : v1 = v4
    · replace hF := ite_t h5 hF
      have h5q : v1 = v4 := h5
      have h5_ := eqb_t h5q
      have h5__ := neb_f h5q
      refine AW.condT (by decide) (by first | (simp [h1, h1_, h2, h3, h4, h4_, h3_, h5_, h5__]; done) | (simp [h1, h1_, h2, h3, h4, h4_, h3_, h5_, h5__]; omega)) ?_
      refine AW.seqR mixed [] [none, none] (by kernel_rfl) fun G132 R132 hG132 hR132 => ?_
      try simp [h1, h1_, h2, h3, h4, h4_, h3_, h5_, h5__]
      repeat' apply And.intro
      any_goals (first | exact hG132 _ (by kernel_rfl) | refine hR132 _ _ _ ?_ | omega | (unfold maxLen; omega) | (simp [h1, h1_, h2, h3, h4, h4_, h3_, h5_, h5__]; done) | (simp [h1, h1_, h2, h3, h4, h4_, h3_, h5_, h5__]; omega))
      refine AW.wk [(4, AV.int .i64 v3)] [] 0 (by simp [h1, h1_, h2, h3, h4, h4_, h3_, h5_, h5__]) (by simp [h1, h1_, h2, h3, h4, h4_, h3_, h5_, h5__]) (by simp) ?_
      simp only [Option.some.injEq] at hF
      subst hF
      refine AW.ret (hQ _ _ _ ?_ (matchO_0 ?_)).1
      · simp [Try.f102, h1, h1_, h2, h3, h4, h4_, h3_, h5_, h5__]
      · simp [h1, h1_, h2, h3, h4, h4_, h3_, h5_, h5__]
    · replace hF := ite_f h5 hF
      have h5_ := eqb_f h5
      have h5__ := neb_t h5
      refine AW.condF (by decide) (by first | (simp [h1, h1_, h2, h3, h4, h4_, h3_, h5, h5_, h5__]; done) | (simp [h1, h1_, h2, h3, h4, h4_, h3_, h5, h5_, h5__]; omega)) ?_
      refine AW.skip ?_
      refine hK129 _ _ _ ?_
      refine AW.region mixed [] [none, none] (by kernel_rfl) fun G133 R133 hG133 hR133 => ?_
      try simp [h1, h1_, h2, h3, h4, h4_, h3_, h5, h5_, h5__]
      repeat' apply And.intro
      any_goals (first | exact hG133 _ (by kernel_rfl) | refine hR133 _ _ _ ?_ | omega | (unfold maxLen; omega) | (simp [h1, h1_, h2, h3, h4, h4_, h3_, h5, h5_, h5__]; done) | (simp [h1, h1_, h2, h3, h4, h4_, h3_, h5, h5_, h5__]; omega))
      refine hK123 _ _ _ ?_
      refine Can.weak [(0, AV.lst false false (List.map (AV.int .i64) v0)), (1, AV.int .i64 v1), (7, AV.int .i64 (v0.length : Int)), (8, AV.int .i64 (IntKind.wrap .i64 (v3 + 1)))] [] 0 (by simp [h1, h1_, h2, h3, h4, h4_, h3_, h5, h5_, h5__]) (by simp [h1, h1_, h2, h3, h4, h4_, h3_, h5, h5_, h5__]) (by simp) ?_
      exact Can.next (k' := n1) (IntKind.wrap .i64 (v3 + 1)) (by omega) hF (by simp [h1, h1_, h2, h3, h4, h4_, h3_, h5, h5_, h5__]) (by simp [h1, h1_, h2, h3, h4, h4_, h3_, h5, h5_, h5__]) (by simp)
  · replace hF := ite_f h1 hF
    have h1_ := h1
    try simp at h1_
    refine AW.condF (by decide) (by first | (simp [h1, h1_]; done) | (simp [h1, h1_]; omega)) ?_
    refine AW.exit ?_
    try simp
    refine hK101 _ _ _ ?_
    refine AW.seqR mixed [] [none] (by kernel_rfl) fun G134 R134 hG134 hR134 => ?_
    try simp [h1, h1_]
    repeat' apply And.intro
    any_goals (first | exact hG134 _ (by kernel_rfl) | refine hR134 _ _ _ ?_ | omega | (unfold maxLen; omega) | (simp [h1, h1_]; done) | (simp [h1, h1_]; omega))
    refine AW.wk [(4, AV.int .i64 (-1))] [] 0 (by simp [h1, h1_]) (by simp [h1, h1_]) (by simp) ?_
    simp only [Option.some.injEq] at hF
    subst hF
    refine AW.ret (hQ _ _ _ ?_ (matchO_0 ?_)).1
    · simp [Try.f102, h1, h1_]
    · simp [h1, h1_]
set_option maxHeartbeats 4000000 in
theorem w_slices_Contains_int_int (k : Nat) (v0 : (List Int)) (v1 : Int) (v2 : Bool) (hF : slices_Contains_int_int k v0 v1 = some v2) :
    FCall Try.prog 95 [AV.lst false false (List.map (AV.int .i64) v0), AV.int .i64 v1] [] (AV.bool v2) [] := by
  unfold slices_Contains_int_int at hF
  refine FCall.enter Try.func95 rfl (by simp) (by decide) (by simp) (by simp) (by simp) (by simp) (by simp) ?_
  intro c0 w0 Q h0 hQ
  refine AW.wk [(0, AV.lst false false (List.map (AV.int .i64) v0)), (1, AV.int .i64 v1)] [] 0 (by simp) (by simp) (by simp) ?_
  refine AW.seqR mixed [] [none] (by kernel_rfl) fun G3 R3 hG3 hR3 => ?_
  try simp
  repeat' apply And.intro
  any_goals (first | exact hG3 _ (by kernel_rfl) | refine hR3 _ _ _ ?_ | omega | (unfold maxLen; omega) | (simp; done) | (simp; omega))
  refine AW.wk [(0, AV.lst false false (List.map (AV.int .i64) v0)), (1, AV.int .i64 v1)] [] 0 (by simp) (by simp) (by simp) ?_
  refine AW.seqR mixed [] [none, none, none, none, none] (by kernel_rfl) fun G4 R4 hG4 hR4 => ?_
  try simp
  repeat' apply And.intro
  try any_goals (first | omega | (unfold maxLen; omega) | (simp; done))
  obtain ⟨v3, h1, hF⟩ := bnd1_elim hF
  refine aCall_l (w_slices_Index_int_int k _ _ _ h1) (by simp) [] [] [] rfl (.cons (.same (by simp)) (.cons (.same (by simp)) .nil)) (by simp) (by decide) (by simp) (by simp) (.inl rfl) (by simp) (by simp) ?_
  try simp
  repeat' apply And.intro
  any_goals (first | exact hG4 _ (by kernel_rfl) | refine hR4 _ _ _ ?_ | omega | (unfold maxLen; omega) | (simp; done) | (simp; omega))
  refine AW.wk [(4, AV.bool (decide (0 ≤ v3)))] [] 0 (by simp) (by simp) (by simp) ?_
  simp only [Option.some.injEq] at hF
  subst hF
  refine AW.ret (hQ _ _ _ ?_ (matchO_0 ?_)).1
  · simp [Try.f95]
  · simp
set_option maxHeartbeats 4000000 in
theorem w_roster_Has (k : Nat) (v0 : (List Int)) (v1 : Int) (v2 : Bool) (hF : roster_Has k v0 v1 = some v2) :
    FCall Try.prog 71 [AV.lst false false (List.map (AV.int .i64) v0), AV.int .i64 v1] [] (AV.bool v2) [] := by
  unfold roster_Has at hF
  refine FCall.enter Try.func71 rfl (by simp) (by decide) (by simp) (by simp) (by simp) (by simp) (by simp) ?_
  intro c0 w0 Q h0 hQ
  refine AW.wk [(0, AV.lst false false (List.map (AV.int .i64) v0)), (1, AV.int .i64 v1)] [] 0 (by simp) (by simp) (by simp) ?_
  refine AW.seqR mixed [] [none] (by kernel_rfl) fun G3 R3 hG3 hR3 => ?_
  try simp
  repeat' apply And.intro
  any_goals (first | exact hG3 _ (by kernel_rfl) | refine hR3 _ _ _ ?_ | omega | (unfold maxLen; omega) | (simp; done) | (simp; omega))
  refine AW.wk [(0, AV.lst false false (List.map (AV.int .i64) v0)), (1, AV.int .i64 v1)] [] 0 (by simp) (by simp) (by simp) ?_
  refine AW.seqR mixed [] [none, none, none, none] (by kernel_rfl) fun G4 R4 hG4 hR4 => ?_
  try simp
  repeat' apply And.intro
  try any_goals (first | omega | (unfold maxLen; omega) | (simp; done))
  obtain ⟨v3, h1, hF⟩ := bnd1_elim hF
  refine aCall_l (w_slices_Contains_int_int k _ _ _ h1) (by simp) [] [] [] rfl (.cons (.same (by simp)) (.cons (.same (by simp)) .nil)) (by simp) (by decide) (by simp) (by simp) (.inl rfl) (by simp) (by simp) ?_
  try simp
  repeat' apply And.intro
  any_goals (first | exact hG4 _ (by kernel_rfl) | refine hR4 _ _ _ ?_ | omega | (unfold maxLen; omega) | (simp; done) | (simp; omega))
  refine AW.wk [(4, AV.bool v3)] [] 0 (by simp) (by simp) (by simp) ?_
  simp only [Option.some.injEq] at hF
  subst hF
  refine AW.ret (hQ _ _ _ ?_ (matchO_0 ?_)).1
  · simp [Try.f71]
  · simp
end Go.TF
