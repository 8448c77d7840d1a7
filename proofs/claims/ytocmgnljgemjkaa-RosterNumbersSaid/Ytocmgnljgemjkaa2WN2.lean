/- Walks: the Go text computes the Lean functions (printed by a program of our own). -/
import Derived.Test.Ytocmgnljgemjkaa2Pu
import Derived.Test.Ytocmgnljgemjkaa2AbsT
import Derived.Test.Ytocmgnljgemjkaa2Wa0
import Derived.Test.Ytocmgnljgemjkaa2WN1
set_option linter.unusedVariables false
set_option linter.unusedSimpArgs false
set_option maxRecDepth 100000
namespace Go.TF
open Go Go.Abs Go.Proofs Go.Proofs.Ytocmgnljgemjkaa2T
set_option maxHeartbeats 4000000 in
theorem w_ref23_SameInts (k : Nat) (v0 : (List Int)) (v1 : (List Int)) (v2 : Bool) (hF : ref23_SameInts k v0 v1 = some v2) :
    FCall Try.prog 49 [AV.lst false false (List.map (AV.int .i64) v0), AV.lst false false (List.map (AV.int .i64) v1)] [] (AV.bool v2) [] := by
  unfold ref23_SameInts at hF
  refine FCall.enter Try.func49 rfl (by simp) (by decide) (by simp) (by simp) (by simp) (by simp) (by simp) ?_
  intro c0 w0 Q h0 hQ
  refine AW.wk [(0, AV.lst false false (List.map (AV.int .i64) v0)), (1, AV.lst false false (List.map (AV.int .i64) v1))] [] 0 (by simp) (by simp) (by simp) ?_
  refine AW.seqR mixed [] [none] (by kernel_rfl) fun G67 R67 hG67 hR67 => ?_
  try simp
  repeat' apply And.intro
  any_goals (first | exact hG67 _ (by kernel_rfl) | refine hR67 _ _ _ ?_ | omega | (unfold maxLen; omega) | (simp; done) | (simp; omega))
  refine AW.wk [(0, AV.lst false false (List.map (AV.int .i64) v0)), (1, AV.lst false false (List.map (AV.int .i64) v1))] [] 0 (by simp) (by simp) (by simp) ?_
  refine AW.seq fun K70 hK70 => ?_
  refine AW.seqR mixed [] [none, none, none, none, none] (by kernel_rfl) fun G71 R71 hG71 hR71 => ?_
  try simp
  repeat' apply And.intro
  any_goals (first | exact hG71 _ (by kernel_rfl) | refine hR71 _ _ _ ?_ | omega | (unfold maxLen; omega) | (simp; done) | (simp; omega))
  refine AW.wk [(0, AV.lst false false (List.map (AV.int .i64) v0)), (1, AV.lst false false (List.map (AV.int .i64) v1)), (10, AV.bool ((v0.length : Int) != (v1.length : Int)))] [] 0 (by simp) (by simp) (by simp) ?_
  by_cases h1 : (v0.length : Int) ≠ (v1.length : Int)
  · replace hF := ite_t h1 hF
    have h1_ := eqb_f h1
    have h1__ := neb_t h1
    refine AW.condT (by decide) (by first | (simp [h1, h1_, h1__]; done) | (simp [h1, h1_, h1__]; omega)) ?_
    refine AW.seqR mixed [] [none] (by kernel_rfl) fun G72 R72 hG72 hR72 => ?_
    try simp [h1, h1_, h1__]
    repeat' apply And.intro
    any_goals (first | exact hG72 _ (by kernel_rfl) | refine hR72 _ _ _ ?_ | omega | (unfold maxLen; omega) | (simp [h1, h1_, h1__]; done) | (simp [h1, h1_, h1__]; omega))
    refine AW.wk [(4, AV.bool false)] [] 0 (by simp [h1, h1_, h1__]) (by simp [h1, h1_, h1__]) (by simp) ?_
    simp only [Option.some.injEq] at hF
    subst hF
    refine AW.ret (hQ _ _ _ ?_ (matchO_0 ?_)).1
    · simp [Try.f49, h1, h1_, h1__]
    · simp [h1, h1_, h1__]
  · replace hF := ite_f h1 hF
    have h1q : (v0.length : Int) = (v1.length : Int) := Classical.not_not.1 h1
    have h1_ := eqb_t h1q
    have h1__ := neb_f h1q
    refine AW.condF (by decide) (by first | (simp [h1_, h1__]; done) | (simp [h1_, h1__]; omega)) ?_
    refine AW.skip ?_
    refine hK70 _ _ _ ?_
    refine AW.seq fun K102 hK102 => ?_
    refine AW.seqR mixed [] [none] (by kernel_rfl) fun G103 R103 hG103 hR103 => ?_
    try simp [h1_, h1__]
    repeat' apply And.intro
    any_goals (first | exact hG103 _ (by kernel_rfl) | refine hR103 _ _ _ ?_ | omega | (unfold maxLen; omega) | (simp [h1_, h1__]; done) | (simp [h1_, h1__]; omega))
    refine AW.wk [(0, AV.lst false false (List.map (AV.int .i64) v0)), (1, AV.lst false false (List.map (AV.int .i64) v1)), (5, AV.int .i64 0)] [] 0 (by simp [h1_, h1__]) (by simp [h1_, h1__]) (by simp) ?_
    refine AW.block ?_
    refine AW.loopF (α := Int) (fun n v3 => ref23_SameInts.L1 k v0 v1 n v3 = some v2) (fun v3 => [(0, AV.lst false false (List.map (AV.int .i64) v0)), (1, AV.lst false false (List.map (AV.int .i64) v1)), (5, AV.int .i64 v3)]) (fun v3 => []) 0 k (0) hF (by simp [h1_, h1__]) (by simp [h1_, h1__]) (by simp) ?_
    rintro (_|n1) v3 hF K122 hK122
    · try dsimp only at hF
      rw [ref23_SameInts.L1] at hF; cases hF
    try dsimp only at hF
    rw [ref23_SameInts.L1] at hF
    refine AW.seq fun K124 hK124 => ?_
    refine AW.seqR mixed [] [none, none, none, none] (by kernel_rfl) fun G125 R125 hG125 hR125 => ?_
    try simp [h1_, h1__]
    repeat' apply And.intro
    any_goals (first | exact hG125 _ (by kernel_rfl) | refine hR125 _ _ _ ?_ | omega | (unfold maxLen; omega) | (simp [h1_, h1__]; done) | (simp [h1_, h1__]; omega))
    refine AW.wk [(0, AV.lst false false (List.map (AV.int .i64) v0)), (1, AV.lst false false (List.map (AV.int .i64) v1)), (5, AV.int .i64 v3), (14, AV.bool (decide (v3 < (v0.length : Int))))] [] 0 (by simp [h1_, h1__]) (by simp [h1_, h1__]) (by simp) ?_
    by_cases h2 : v3 < (v0.length : Int)
    · replace hF := ite_t h2 hF
      have h2_ := h2
      try simp at h2_
      refine AW.condT (by decide) (by first | (simp [h1_, h1__, h2, h2_]; done) | (simp [h1_, h1__, h2, h2_]; omega)) ?_
      refine AW.skip ?_
      refine hK124 _ _ _ ?_
      refine AW.seq fun K128 hK128 => ?_
      refine AW.block ?_
      refine AW.seqR mixed [] [none, none, none, none, none, none, none, none, none] (by kernel_rfl) fun G129 R129 hG129 hR129 => ?_
      obtain ⟨v4, h3, h4, h5, hF⟩ := idx_elim hF
      have h5_ := get_of h5
      try simp at h5_
      have h4_ := h4
      try simp at h4_
      obtain ⟨v5, h6, h7, h8, hF⟩ := idx_elim hF
      have h8_ := get_of h8
      try simp at h8_
      have h7_ := h7
      try simp at h7_
      try simp [h1_, h1__, h2, h2_, h3, h4, h5, h5_, h4_, h6, h7, h8, h8_, h7_]
      repeat' apply And.intro
      any_goals (first | exact hG129 _ (by kernel_rfl) | refine hR129 _ _ _ ?_ | omega | (unfold maxLen; omega) | (simp [h1_, h1__, h2, h2_, h3, h4, h5, h5_, h4_, h6, h7, h8, h8_, h7_]; done) | (simp [h1_, h1__, h2, h2_, h3, h4, h5, h5_, h4_, h6, h7, h8, h8_, h7_]; omega))
      refine AW.wk [(0, AV.lst false false (List.map (AV.int .i64) v0)), (1, AV.lst false false (List.map (AV.int .i64) v1)), (5, AV.int .i64 v3), (25, AV.bool (v4 != v5))] [] 0 (by simp [h1_, h1__, h2, h2_, h3, h4, h5, h5_, h4_, h6, h7, h8, h8_, h7_]) (by simp [h1_, h1__, h2, h2_, h3, h4, h5, h5_, h4_, h6, h7, h8, h8_, h7_]) (by simp) ?_
      by_cases h9 : v4 ≠ v5
      · replace hF := ite_t h9 hF
        have h9_ := eqb_f h9
        have h9__ := neb_t h9
        refine AW.condT (by decide) (by first | (simp [h1_, h1__, h2, h2_, h3, h4, h5, h5_, h4_, h6, h7, h8, h8_, h7_, h9, h9_, h9__]; done) | (simp [h1_, h1__, h2, h2_, h3, h4, h5, h5_, h4_, h6, h7, h8, h8_, h7_, h9, h9_, h9__]; omega)) ?_
        refine AW.seqR mixed [] [none] (by kernel_rfl) fun G130 R130 hG130 hR130 => ?_
        try simp [h1_, h1__, h2, h2_, h3, h4, h5, h5_, h4_, h6, h7, h8, h8_, h7_, h9, h9_, h9__]
        repeat' apply And.intro
        any_goals (first | exact hG130 _ (by kernel_rfl) | refine hR130 _ _ _ ?_ | omega | (unfold maxLen; omega) | (simp [h1_, h1__, h2, h2_, h3, h4, h5, h5_, h4_, h6, h7, h8, h8_, h7_, h9, h9_, h9__]; done) | (simp [h1_, h1__, h2, h2_, h3, h4, h5, h5_, h4_, h6, h7, h8, h8_, h7_, h9, h9_, h9__]; omega))
        refine AW.wk [(4, AV.bool false)] [] 0 (by simp [h1_, h1__, h2, h2_, h3, h4, h5, h5_, h4_, h6, h7, h8, h8_, h7_, h9, h9_, h9__]) (by simp [h1_, h1__, h2, h2_, h3, h4, h5, h5_, h4_, h6, h7, h8, h8_, h7_, h9, h9_, h9__]) (by simp) ?_
        simp only [Option.some.injEq] at hF
        subst hF
        refine AW.ret (hQ _ _ _ ?_ (matchO_0 ?_)).1
        · simp [Try.f49, h1_, h1__, h2, h2_, h3, h4, h5, h5_, h4_, h6, h7, h8, h8_, h7_, h9, h9_, h9__]
        · simp [h1_, h1__, h2, h2_, h3, h4, h5, h5_, h4_, h6, h7, h8, h8_, h7_, h9, h9_, h9__]
      · replace hF := ite_f h9 hF
        have h9q : v4 = v5 := Classical.not_not.1 h9
        have h9_ := eqb_t h9q
        have h9__ := neb_f h9q
        refine AW.condF (by decide) (by first | (simp [h1_, h1__, h2, h2_, h3, h4, h5, h5_, h4_, h6, h7, h8, h8_, h7_, h9_, h9__]; done) | (simp [h1_, h1__, h2, h2_, h3, h4, h5, h5_, h4_, h6, h7, h8, h8_, h7_, h9_, h9__]; omega)) ?_
        refine AW.skip ?_
        refine hK128 _ _ _ ?_
        refine AW.region mixed [] [none, none, none] (by kernel_rfl) fun G131 R131 hG131 hR131 => ?_
        try simp [h1_, h1__, h2, h2_, h3, h4, h5, h5_, h4_, h6, h7, h8, h8_, h7_, h9_, h9__]
        repeat' apply And.intro
        any_goals (first | exact hG131 _ (by kernel_rfl) | refine hR131 _ _ _ ?_ | omega | (unfold maxLen; omega) | (simp [h1_, h1__, h2, h2_, h3, h4, h5, h5_, h4_, h6, h7, h8, h8_, h7_, h9_, h9__]; done) | (simp [h1_, h1__, h2, h2_, h3, h4, h5, h5_, h4_, h6, h7, h8, h8_, h7_, h9_, h9__]; omega))
        refine hK122 _ _ _ ?_
        refine Can.weak [(0, AV.lst false false (List.map (AV.int .i64) v0)), (1, AV.lst false false (List.map (AV.int .i64) v1)), (5, AV.int .i64 (IntKind.wrap .i64 (v3 + 1)))] [] 0 (by simp [h1_, h1__, h2, h2_, h3, h4, h5, h5_, h4_, h6, h7, h8, h8_, h7_, h9_, h9__]) (by simp [h1_, h1__, h2, h2_, h3, h4, h5, h5_, h4_, h6, h7, h8, h8_, h7_, h9_, h9__]) (by simp) ?_
        exact Can.next (k' := n1) (IntKind.wrap .i64 (v3 + 1)) (by omega) hF (by simp [h1_, h1__, h2, h2_, h3, h4, h5, h5_, h4_, h6, h7, h8, h8_, h7_, h9_, h9__]) (by simp [h1_, h1__, h2, h2_, h3, h4, h5, h5_, h4_, h6, h7, h8, h8_, h7_, h9_, h9__]) (by simp)
    · replace hF := ite_f h2 hF
      have h2_ := h2
      try simp at h2_
      refine AW.condF (by decide) (by first | (simp [h1_, h1__, h2, h2_]; done) | (simp [h1_, h1__, h2, h2_]; omega)) ?_
      refine AW.exit ?_
      try simp
      refine hK102 _ _ _ ?_
      refine AW.seqR mixed [] [none] (by kernel_rfl) fun G132 R132 hG132 hR132 => ?_
      try simp [h1_, h1__, h2, h2_]
      repeat' apply And.intro
      any_goals (first | exact hG132 _ (by kernel_rfl) | refine hR132 _ _ _ ?_ | omega | (unfold maxLen; omega) | (simp [h1_, h1__, h2, h2_]; done) | (simp [h1_, h1__, h2, h2_]; omega))
      refine AW.wk [(4, AV.bool true)] [] 0 (by simp [h1_, h1__, h2, h2_]) (by simp [h1_, h1__, h2, h2_]) (by simp) ?_
      simp only [Option.some.injEq] at hF
      subst hF
      refine AW.ret (hQ _ _ _ ?_ (matchO_0 ?_)).1
      · simp [Try.f49, h1_, h1__, h2, h2_]
      · simp [h1_, h1__, h2, h2_]
set_option maxHeartbeats 4000000 in
theorem w_law24_awake (k : Nat) (v0 : Bool) (hF : law24_awake k = some v0) :
    FCall Try.prog 48 [] [] (AV.bool v0) [] := by
  unfold law24_awake at hF
  refine FCall.enter Try.func48 rfl (by simp) (by decide) (by simp) (by simp) (by simp) (by simp) (by simp) ?_
  intro c0 w0 Q h0 hQ
  refine AW.wk [] [] 0 (by simp) (by simp) (by simp) ?_
  refine AW.seqR mixed [] [none] (by kernel_rfl) fun G5 R5 hG5 hR5 => ?_
  try simp
  repeat' apply And.intro
  any_goals (first | exact hG5 _ (by kernel_rfl) | refine hR5 _ _ _ ?_ | omega | (unfold maxLen; omega) | (simp; done) | (simp; omega))
  refine AW.wk [] [] 0 (by simp) (by simp) (by simp) ?_
  refine AW.seqR mixed [] [none, none, none, none, none, none, none] (by kernel_rfl) fun G6 R6 hG6 hR6 => ?_
  try simp
  repeat' apply And.intro
  try any_goals (first | omega | (unfold maxLen; omega) | (simp; done))
  obtain ⟨v1, v2, h1, hF⟩ := bnd2_elim hF
  refine aCall_l (w_roster_Encode k _ _ _ h1) (by simp) [] [] [] rfl (.cons (Coe.fl (by simp)) .nil) (by simp) (by decide) (by simp) (by simp) (.inl rfl) (by simp) (by simp) ?_
  try simp
  repeat' apply And.intro
  any_goals (first | exact hG6 _ (by kernel_rfl) | refine hR6 _ _ _ ?_ | omega | (unfold maxLen; omega) | (simp; done) | (simp; omega))
  refine AW.wk [(1, AV.lst false false (List.map (AV.int .i64) v1)), (2, AV.int .i64 v2)] [] 0 (by simp) (by simp) (by simp) ?_
  refine AW.seqR mixed [] [none, none, none, none, none, none, none] (by kernel_rfl) fun G7 R7 hG7 hR7 => ?_
  try simp
  repeat' apply And.intro
  try any_goals (first | omega | (unfold maxLen; omega) | (simp; done))
  obtain ⟨v3, v4, h2, hF⟩ := bnd2_elim hF
  refine aCall_l (w_roster_Decode k _ _ _ h2) (by simp) [] [] [] rfl (.cons (.same (by simp)) .nil) (by simp) (by decide) (by simp) (by simp) (.inl rfl) (by simp) (by simp) ?_
  try simp
  repeat' apply And.intro
  any_goals (first | exact hG7 _ (by kernel_rfl) | refine hR7 _ _ _ ?_ | omega | (unfold maxLen; omega) | (simp; done) | (simp; omega))
  refine AW.wk [(1, AV.lst false false (List.map (AV.int .i64) v1)), (2, AV.int .i64 v2), (3, AV.slc 0 0 1 v3.length false), (4, AV.int .i64 v4)] [(0, .grow (List.map (AV.int .i64) v3))] 1 (by simp) (by simp) (by simp) ?_
  refine AW.frz 0 (o := .grow (List.map (AV.int .i64) v3)) (by simp) rfl [(3, AV.lst false false (List.map (AV.int .i64) v3))] [] ⟨(.l (by simp) (by simp) (by simp) (by simp)), trivial⟩ trivial ?_
  refine AW.wk [(1, AV.lst false false (List.map (AV.int .i64) v1)), (2, AV.int .i64 v2), (3, AV.lst false false (List.map (AV.int .i64) v3)), (4, AV.int .i64 v4)] [] 1 (by simp) (by simp) (by simp) ?_
  refine AW.seqR mixed [] [none, none, none, some (17, true), some (17, true), none, none, some (21, true), some (21, true), some (21, true), none, none, some (26, true), some (26, true), some (26, true), none, none] (by kernel_rfl) fun G8 R8 hG8 hR8 => ?_
  by_cases h3 : v2 = 0
  · replace hF := ite_t h3 hF
    have h3q : v2 = 0 := h3
    have h3_ := eqb_t h3q
    have h3__ := neb_f h3q
    by_cases h4 : v4 = 0
    · replace hF := ite_t h4 hF
      have h4q : v4 = 0 := h4
      have h4_ := eqb_t h4q
      have h4__ := neb_f h4q
      try simp [h3_, h3__, h3q, h4_, h4__, h4q]
      repeat' apply And.intro
      try any_goals (first | omega | (unfold maxLen; omega) | (simp [h3_, h3__, h3q, h4_, h4__, h4q]; done))
      obtain ⟨v5, h5, hF⟩ := bnd1_elim hF
      refine aCall_l (w_ref23_SameInts k _ _ _ h5) (by simp) [] [] [] rfl (.cons (.same (by simp [h3_, h3__, h3q, h4_, h4__, h4q])) (.cons (Coe.fl (by simp [h3_, h3__, h3q, h4_, h4__, h4q])) .nil)) (by simp [h3_, h3__, h3q, h4_, h4__, h4q]) (by decide) (by simp) (by simp) (.inl rfl) (by simp) (by simp) ?_
      by_cases h6 : v5 = true
      · replace hF := ite_t h6 hF
        have h6_ := h6
        try simp at h6_
        try simp [h3_, h3__, h3q, h4_, h4__, h4q, h6, h6_]
        repeat' apply And.intro
        try any_goals (first | omega | (unfold maxLen; omega) | (simp [h3_, h3__, h3q, h4_, h4__, h4q, h6, h6_]; done))
        obtain ⟨v6, h7, hF⟩ := bnd1_elim hF
        refine aCall_l (w_ref23_SameInts k _ _ _ h7) (by simp) [] [] [] rfl (.cons (.same (by simp [h3_, h3__, h3q, h4_, h4__, h4q, h6, h6_])) (.cons (Coe.fl (by simp [h3_, h3__, h3q, h4_, h4__, h4q, h6, h6_])) .nil)) (by simp [h3_, h3__, h3q, h4_, h4__, h4q, h6, h6_]) (by decide) (by simp) (by simp) (.inl rfl) (by simp) (by simp) ?_
        try simp [h3_, h3__, h3q, h4_, h4__, h4q, h6, h6_]
        repeat' apply And.intro
        any_goals (first | exact hG8 _ (by kernel_rfl) | refine hR8 _ _ _ ?_ | omega | (unfold maxLen; omega) | (simp [h3_, h3__, h3q, h4_, h4__, h4q, h6, h6_]; done) | (simp [h3_, h3__, h3q, h4_, h4__, h4q, h6, h6_]; omega))
        refine AW.wk [(0, AV.bool v6)] [] 1 (by simp [h3_, h3__, h3q, h4_, h4__, h4q, h6, h6_]) (by simp [h3_, h3__, h3q, h4_, h4__, h4q, h6, h6_]) (by simp) ?_
        simp only [Option.some.injEq] at hF
        subst hF
        refine AW.ret (hQ _ _ _ ?_ (matchO_0 ?_)).1
        · simp [Try.f48, h3_, h3__, h3q, h4_, h4__, h4q, h6, h6_]
        · simp [h3_, h3__, h3q, h4_, h4__, h4q, h6, h6_]
      · replace hF := ite_f h6 hF
        have h6_ := h6
        try simp at h6_
        try simp [h3_, h3__, h3q, h4_, h4__, h4q, h6, h6_]
        repeat' apply And.intro
        any_goals (first | exact hG8 _ (by kernel_rfl) | refine hR8 _ _ _ ?_ | omega | (unfold maxLen; omega) | (simp [h3_, h3__, h3q, h4_, h4__, h4q, h6, h6_]; done) | (simp [h3_, h3__, h3q, h4_, h4__, h4q, h6, h6_]; omega))
        refine AW.wk [(0, AV.bool false)] [] 1 (by simp [h3_, h3__, h3q, h4_, h4__, h4q, h6, h6_]) (by simp [h3_, h3__, h3q, h4_, h4__, h4q, h6, h6_]) (by simp) ?_
        simp only [Option.some.injEq] at hF
        subst hF
        refine AW.ret (hQ _ _ _ ?_ (matchO_0 ?_)).1
        · simp [Try.f48, h3_, h3__, h3q, h4_, h4__, h4q, h6, h6_]
        · simp [h3_, h3__, h3q, h4_, h4__, h4q, h6, h6_]
    · replace hF := ite_f h4 hF
      have h4_ := eqb_f h4
      have h4__ := neb_t h4
      try simp [h3_, h3__, h3q, h4, h4_, h4__]
      repeat' apply And.intro
      any_goals (first | exact hG8 _ (by kernel_rfl) | refine hR8 _ _ _ ?_ | omega | (unfold maxLen; omega) | (simp [h3_, h3__, h3q, h4, h4_, h4__]; done) | (simp [h3_, h3__, h3q, h4, h4_, h4__]; omega))
      refine AW.wk [(0, AV.bool false)] [] 1 (by simp [h3_, h3__, h3q, h4, h4_, h4__]) (by simp [h3_, h3__, h3q, h4, h4_, h4__]) (by simp) ?_
      simp only [Option.some.injEq] at hF
      subst hF
      refine AW.ret (hQ _ _ _ ?_ (matchO_0 ?_)).1
      · simp [Try.f48, h3_, h3__, h3q, h4, h4_, h4__]
      · simp [h3_, h3__, h3q, h4, h4_, h4__]
  · replace hF := ite_f h3 hF
    have h3_ := eqb_f h3
    have h3__ := neb_t h3
    try simp [h3, h3_, h3__]
    repeat' apply And.intro
    any_goals (first | exact hG8 _ (by kernel_rfl) | refine hR8 _ _ _ ?_ | omega | (unfold maxLen; omega) | (simp [h3, h3_, h3__]; done) | (simp [h3, h3_, h3__]; omega))
    refine AW.wk [(0, AV.bool false)] [] 1 (by simp [h3, h3_, h3__]) (by simp [h3, h3_, h3__]) (by simp) ?_
    simp only [Option.some.injEq] at hF
    subst hF
    refine AW.ret (hQ _ _ _ ?_ (matchO_0 ?_)).1
    · simp [Try.f48, h3, h3_, h3__]
    · simp [h3, h3_, h3__]
set_option maxHeartbeats 4000000 in
theorem w_law24_RosterNumbers (k : Nat) (v0 : Int) (v1 : Int) (v2 : Bool) (hF : law24_RosterNumbers k v0 v1 = some v2) :
    FCall Try.prog 8 [AV.int .u32 v0, AV.int .u32 v1] [] (AV.bool v2) [] := by
  unfold law24_RosterNumbers at hF
  refine FCall.enter Try.func8 rfl (by simp) (by decide) (by simp) (by simp) (by simp) (by simp) (by simp) ?_
  intro c0 w0 Q h0 hQ
  refine AW.wk [(0, AV.int .u32 v0), (1, AV.int .u32 v1)] [] 0 (by simp) (by simp) (by simp) ?_
  refine AW.seqR mixed [] [none] (by kernel_rfl) fun G14 R14 hG14 hR14 => ?_
  try simp
  repeat' apply And.intro
  any_goals (first | exact hG14 _ (by kernel_rfl) | refine hR14 _ _ _ ?_ | omega | (unfold maxLen; omega) | (simp; done) | (simp; omega))
  refine AW.wk [(0, AV.int .u32 v0), (1, AV.int .u32 v1)] [] 0 (by simp) (by simp) (by simp) ?_
  refine AW.seqR mixed [] [none, none, none, none, none, none] (by kernel_rfl) fun G15 R15 hG15 hR15 => ?_
  try simp
  repeat' apply And.intro
  any_goals (first | exact hG15 _ (by kernel_rfl) | refine hR15 _ _ _ ?_ | omega | (unfold maxLen; omega) | (simp; done) | (simp; omega))
  refine AW.wk [(0, AV.int .u32 v0), (1, AV.int .u32 v1), (5, AV.lst false true (List.map (AV.int .i64) ([IntKind.wrap .i64 v0, IntKind.wrap .i64 v1] : List Int)))] [] 0 (by simp) (by simp) (by simp) ?_
  refine AW.seqR mixed [] [none, none, none, none, none, none, none] (by kernel_rfl) fun G16 R16 hG16 hR16 => ?_
  try simp
  repeat' apply And.intro
  try any_goals (first | omega | (unfold maxLen; omega) | (simp; done))
  obtain ⟨v3, v4, h1, hF⟩ := bnd2_elim hF
  refine aCall_l (w_roster_Decode k _ _ _ h1) (by simp) [] [] [] rfl (.cons (Coe.fl (by simp)) .nil) (by simp) (by decide) (by simp) (by simp) (.inl rfl) (by simp) (by simp) ?_
  try simp
  repeat' apply And.intro
  any_goals (first | exact hG16 _ (by kernel_rfl) | refine hR16 _ _ _ ?_ | omega | (unfold maxLen; omega) | (simp; done) | (simp; omega))
  refine AW.wk [(0, AV.int .u32 v0), (1, AV.int .u32 v1), (5, AV.lst false true (List.map (AV.int .i64) ([IntKind.wrap .i64 v0, IntKind.wrap .i64 v1] : List Int))), (6, AV.slc 0 0 1 v3.length false), (7, AV.int .i64 v4)] [(0, .grow (List.map (AV.int .i64) v3))] 1 (by simp) (by simp) (by simp) ?_
  refine AW.frz 0 (o := .grow (List.map (AV.int .i64) v3)) (by simp) rfl [(6, AV.lst false false (List.map (AV.int .i64) v3))] [] ⟨(.l (by simp) (by simp) (by simp) (by simp)), trivial⟩ trivial ?_
  refine AW.wk [(0, AV.int .u32 v0), (1, AV.int .u32 v1), (5, AV.lst false true (List.map (AV.int .i64) ([IntKind.wrap .i64 v0, IntKind.wrap .i64 v1] : List Int))), (6, AV.lst false false (List.map (AV.int .i64) v3)), (7, AV.int .i64 v4)] [] 1 (by simp) (by simp) (by simp) ?_
  refine AW.seqR mixed [] [none, none, none, none, none, none, none] (by kernel_rfl) fun G17 R17 hG17 hR17 => ?_
  try simp
  repeat' apply And.intro
  try any_goals (first | omega | (unfold maxLen; omega) | (simp; done))
  obtain ⟨v5, v6, h2, hF⟩ := bnd2_elim hF
  refine aCall_l (w_roster_Encode k _ _ _ h2) (by simp) [] [] [] rfl (.cons (.same (by simp)) .nil) (by simp) (by decide) (by simp) (by simp) (.inl rfl) (by simp) (by simp) ?_
  try simp
  repeat' apply And.intro
  any_goals (first | exact hG17 _ (by kernel_rfl) | refine hR17 _ _ _ ?_ | omega | (unfold maxLen; omega) | (simp; done) | (simp; omega))
  refine AW.wk [(0, AV.int .u32 v0), (1, AV.int .u32 v1), (5, AV.lst false true (List.map (AV.int .i64) ([IntKind.wrap .i64 v0, IntKind.wrap .i64 v1] : List Int))), (6, AV.lst false false (List.map (AV.int .i64) v3)), (7, AV.int .i64 v4), (8, AV.lst false false (List.map (AV.int .i64) v5)), (9, AV.int .i64 v6)] [] 1 (by simp) (by simp) (by simp) ?_
  refine AW.midF (α := Unit) (fun _ => law24_RosterNumbers.J1 k v0 v1 v3 v4 v5 v6 = some v2) (fun _ => [(0, AV.int .u32 v0), (1, AV.int .u32 v1), (5, AV.lst false true (List.map (AV.int .i64) ([IntKind.wrap .i64 v0, IntKind.wrap .i64 v1] : List Int))), (6, AV.lst false false (List.map (AV.int .i64) v3)), (7, AV.int .i64 v4), (8, AV.lst false false (List.map (AV.int .i64) v5)), (9, AV.int .i64 v6)]) (fun _ => []) 0 (fun K24 hK24 => ?_) ?_
  · refine AW.seqR mixed [] [none, none, none, some (33, true), some (33, true), none] (by kernel_rfl) fun G25 R25 hG25 hR25 => ?_
    by_cases h17 : v0 = 0
    · replace hF := ite_t h17 hF
      have h17q : v0 = 0 := h17
      have h17_ := eqb_t h17q
      have h17__ := neb_f h17q
      try simp [h17_, h17__, h17q]
      repeat' apply And.intro
      any_goals (first | exact hG25 _ (by kernel_rfl) | refine hR25 _ _ _ ?_ | omega | (unfold maxLen; omega) | (simp [h17_, h17__, h17q]; done) | (simp [h17_, h17__, h17q]; omega))
      refine AW.wk [(0, AV.int .u32 v0), (1, AV.int .u32 v1), (5, AV.lst false true (List.map (AV.int .i64) ([IntKind.wrap .i64 v0, IntKind.wrap .i64 v1] : List Int))), (6, AV.lst false false (List.map (AV.int .i64) v3)), (7, AV.int .i64 v4), (8, AV.lst false false (List.map (AV.int .i64) v5)), (9, AV.int .i64 v6), (36, AV.bool (v1 == 0))] [] 1 (by simp [h17_, h17__, h17q]) (by simp [h17_, h17__, h17q]) (by simp) ?_
      by_cases h18 : v1 = 0
      · replace hF := ite_t h18 hF
        have h18q : v1 = 0 := h18
        have h18_ := eqb_t h18q
        have h18__ := neb_f h18q
        refine AW.condT (by decide) (by first | (simp [h17_, h17__, h17q, h18_, h18__, h18q]; done) | (simp [h17_, h17__, h17q, h18_, h18__, h18q]; omega)) ?_
        refine AW.seqR mixed [] [none, none, none, some (39, true), some (39, true), none, none, some (43, true), none, none] (by kernel_rfl) fun G26 R26 hG26 hR26 => ?_
        by_cases h19 : v4 = 43
        · replace hF := ite_t h19 hF
          have h19q : v4 = 43 := h19
          have h19_ := eqb_t h19q
          have h19__ := neb_f h19q
          by_cases h20 : v6 = 43
          · replace hF := ite_t h20 hF
            have h20q : v6 = 43 := h20
            have h20_ := eqb_t h20q
            have h20__ := neb_f h20q
            try simp [h17_, h17__, h17q, h18_, h18__, h18q, h19_, h19__, h19q, h20_, h20__, h20q]
            repeat' apply And.intro
            try any_goals (first | omega | (unfold maxLen; omega) | (simp [h17_, h17__, h17q, h18_, h18__, h18q, h19_, h19__, h19q, h20_, h20__, h20q]; done))
            obtain ⟨v16, h21, hF⟩ := bnd1_elim hF
            refine aCall_l (w_law24_awake k _ h21) (by simp) [] [] [] rfl .nil (by simp [h17_, h17__, h17q, h18_, h18__, h18q, h19_, h19__, h19q, h20_, h20__, h20q]) (by decide) (by simp) (by simp) (.inl rfl) (by simp) (by simp) ?_
            try simp [h17_, h17__, h17q, h18_, h18__, h18q, h19_, h19__, h19q, h20_, h20__, h20q]
            repeat' apply And.intro
            any_goals (first | exact hG26 _ (by kernel_rfl) | refine hR26 _ _ _ ?_ | omega | (unfold maxLen; omega) | (simp [h17_, h17__, h17q, h18_, h18__, h18q, h19_, h19__, h19q, h20_, h20__, h20q]; done) | (simp [h17_, h17__, h17q, h18_, h18__, h18q, h19_, h19__, h19q, h20_, h20__, h20q]; omega))
            refine AW.wk [(4, AV.bool v16)] [] 1 (by simp [h17_, h17__, h17q, h18_, h18__, h18q, h19_, h19__, h19q, h20_, h20__, h20q]) (by simp [h17_, h17__, h17q, h18_, h18__, h18q, h19_, h19__, h19q, h20_, h20__, h20q]) (by simp) ?_
            simp only [Option.some.injEq] at hF
            subst hF
            refine AW.ret (hQ _ _ _ ?_ (matchO_0 ?_)).1
            · simp [Try.f8, h17_, h17__, h17q, h18_, h18__, h18q, h19_, h19__, h19q, h20_, h20__, h20q]
            · simp [h17_, h17__, h17q, h18_, h18__, h18q, h19_, h19__, h19q, h20_, h20__, h20q]
          · replace hF := ite_f h20 hF
            have h20_ := eqb_f h20
            have h20__ := neb_t h20
            try simp [h17_, h17__, h17q, h18_, h18__, h18q, h19_, h19__, h19q, h20, h20_, h20__]
            repeat' apply And.intro
            any_goals (first | exact hG26 _ (by kernel_rfl) | refine hR26 _ _ _ ?_ | omega | (unfold maxLen; omega) | (simp [h17_, h17__, h17q, h18_, h18__, h18q, h19_, h19__, h19q, h20, h20_, h20__]; done) | (simp [h17_, h17__, h17q, h18_, h18__, h18q, h19_, h19__, h19q, h20, h20_, h20__]; omega))
            refine AW.wk [(4, AV.bool false)] [] 1 (by simp [h17_, h17__, h17q, h18_, h18__, h18q, h19_, h19__, h19q, h20, h20_, h20__]) (by simp [h17_, h17__, h17q, h18_, h18__, h18q, h19_, h19__, h19q, h20, h20_, h20__]) (by simp) ?_
            simp only [Option.some.injEq] at hF
            subst hF
            refine AW.ret (hQ _ _ _ ?_ (matchO_0 ?_)).1
            · simp [Try.f8, h17_, h17__, h17q, h18_, h18__, h18q, h19_, h19__, h19q, h20, h20_, h20__]
            · simp [h17_, h17__, h17q, h18_, h18__, h18q, h19_, h19__, h19q, h20, h20_, h20__]
        · replace hF := ite_f h19 hF
          have h19_ := eqb_f h19
          have h19__ := neb_t h19
          try simp [h17_, h17__, h17q, h18_, h18__, h18q, h19, h19_, h19__]
          repeat' apply And.intro
          any_goals (first | exact hG26 _ (by kernel_rfl) | refine hR26 _ _ _ ?_ | omega | (unfold maxLen; omega) | (simp [h17_, h17__, h17q, h18_, h18__, h18q, h19, h19_, h19__]; done) | (simp [h17_, h17__, h17q, h18_, h18__, h18q, h19, h19_, h19__]; omega))
          refine AW.wk [(4, AV.bool false)] [] 1 (by simp [h17_, h17__, h17q, h18_, h18__, h18q, h19, h19_, h19__]) (by simp [h17_, h17__, h17q, h18_, h18__, h18q, h19, h19_, h19__]) (by simp) ?_
          simp only [Option.some.injEq] at hF
          subst hF
          refine AW.ret (hQ _ _ _ ?_ (matchO_0 ?_)).1
          · simp [Try.f8, h17_, h17__, h17q, h18_, h18__, h18q, h19, h19_, h19__]
          · simp [h17_, h17__, h17q, h18_, h18__, h18q, h19, h19_, h19__]
      · replace hF := ite_f h18 hF
        have h18_ := eqb_f h18
        have h18__ := neb_t h18
        refine AW.condF (by decide) (by first | (simp [h17_, h17__, h17q, h18, h18_, h18__]; done) | (simp [h17_, h17__, h17q, h18, h18_, h18__]; omega)) ?_
        refine AW.skip ?_
        refine hK24 _ _ _ ?_
        refine Can.ren (m := 0) h0 [] [(0, AV.int .u32 v0), (1, AV.int .u32 v1), (5, AV.lst false true (List.map (AV.int .i64) ([IntKind.wrap .i64 v0, IntKind.wrap .i64 v1] : List Int))), (6, AV.lst false false (List.map (AV.int .i64) v3)), (7, AV.int .i64 v4), (8, AV.lst false false (List.map (AV.int .i64) v5)), (9, AV.int .i64 v6)] [] 0 (by decide) (by decide) (by decide) rfl (by simp [h17_, h17__, h17q, h18, h18_, h18__]) (by simp [h17_, h17__, h17q, h18, h18_, h18__]) ?_
        exact Can.join (()) hF (by simp [h17_, h17__, h17q, h18, h18_, h18__]) (by simp [h17_, h17__, h17q, h18, h18_, h18__]) (by simp)
    · replace hF := ite_f h17 hF
      have h17_ := eqb_f h17
      have h17__ := neb_t h17
      try simp [h17, h17_, h17__]
      repeat' apply And.intro
      any_goals (first | exact hG25 _ (by kernel_rfl) | refine hR25 _ _ _ ?_ | omega | (unfold maxLen; omega) | (simp [h17, h17_, h17__]; done) | (simp [h17, h17_, h17__]; omega))
      refine AW.wk [(0, AV.int .u32 v0), (1, AV.int .u32 v1), (5, AV.lst false true (List.map (AV.int .i64) ([IntKind.wrap .i64 v0, IntKind.wrap .i64 v1] : List Int))), (6, AV.lst false false (List.map (AV.int .i64) v3)), (7, AV.int .i64 v4), (8, AV.lst false false (List.map (AV.int .i64) v5)), (9, AV.int .i64 v6), (36, AV.bool false)] [] 1 (by simp [h17, h17_, h17__]) (by simp [h17, h17_, h17__]) (by simp) ?_
      refine AW.condF (by decide) (by simp [h17, h17_, h17__]) ?_
      refine AW.skip ?_
      refine hK24 _ _ _ ?_
      refine Can.ren (m := 0) h0 [] [(0, AV.int .u32 v0), (1, AV.int .u32 v1), (5, AV.lst false true (List.map (AV.int .i64) ([IntKind.wrap .i64 v0, IntKind.wrap .i64 v1] : List Int))), (6, AV.lst false false (List.map (AV.int .i64) v3)), (7, AV.int .i64 v4), (8, AV.lst false false (List.map (AV.int .i64) v5)), (9, AV.int .i64 v6)] [] 0 (by decide) (by decide) (by decide) rfl (by simp [h17, h17_, h17__]) (by simp [h17, h17_, h17__]) ?_
      exact Can.join (()) hF (by simp [h17, h17_, h17__]) (by simp [h17, h17_, h17__]) (by simp)
  · rintro ⟨⟩ hF
    try dsimp only at hF
    unfold law24_RosterNumbers.J1 at hF
    refine AW.seqR mixed [] [none, none, none, none, none, none, none, none, none, none, none, none] (by kernel_rfl) fun G20 R20 hG20 hR20 => ?_
    try simp
    repeat' apply And.intro
    try any_goals (first | omega | (unfold maxLen; omega) | (simp; done))
    obtain ⟨v7, v8, h3, hF⟩ := bnd2_elim hF
    refine aCall_l (w_roster_Decode k _ _ _ h3) (by simp) [] [] [] rfl (.cons (Coe.fl (by simp)) .nil) (by simp) (by decide) (by simp) (by simp) (.inl rfl) (by simp) (by simp) ?_
    try simp
    repeat' apply And.intro
    any_goals (first | exact hG20 _ (by kernel_rfl) | refine hR20 _ _ _ ?_ | omega | (unfold maxLen; omega) | (simp; done) | (simp; omega))
    refine AW.wk [(0, AV.int .u32 v0), (1, AV.int .u32 v1), (5, AV.lst false true (List.map (AV.int .i64) ([IntKind.wrap .i64 v0, IntKind.wrap .i64 v1] : List Int))), (6, AV.lst false false (List.map (AV.int .i64) v3)), (7, AV.int .i64 v4), (8, AV.lst false false (List.map (AV.int .i64) v5)), (9, AV.int .i64 v6), (11, AV.int .i64 v8)] [] 1 (by simp) (by simp) (by simp) ?_
    refine AW.seqR mixed [] [none, none, none, none, none, none, none, none, none, none, none, none, none] (by kernel_rfl) fun G21 R21 hG21 hR21 => ?_
    try simp
    repeat' apply And.intro
    try any_goals (first | omega | (unfold maxLen; omega) | (simp; done))
    obtain ⟨v9, v10, h4, hF⟩ := bnd2_elim hF
    refine aCall_l (w_roster_Decode k _ _ _ h4) (by simp) [] [] [] rfl (.cons (Coe.fl (by simp)) .nil) (by simp) (by decide) (by simp) (by simp) (.inl rfl) (by simp) (by simp) ?_
    try simp
    repeat' apply And.intro
    any_goals (first | exact hG21 _ (by kernel_rfl) | refine hR21 _ _ _ ?_ | omega | (unfold maxLen; omega) | (simp; done) | (simp; omega))
    refine AW.wk [(5, AV.lst false true (List.map (AV.int .i64) ([IntKind.wrap .i64 v0, IntKind.wrap .i64 v1] : List Int))), (6, AV.lst false false (List.map (AV.int .i64) v3)), (7, AV.int .i64 v4), (8, AV.lst false false (List.map (AV.int .i64) v5)), (9, AV.int .i64 v6), (11, AV.int .i64 v8), (13, AV.int .i64 v10)] [] 2 (by simp) (by simp) (by simp) ?_
    refine AW.seqR mixed [] [none, none, none, none, none, none, none, none, none] (by kernel_rfl) fun G22 R22 hG22 hR22 => ?_
    obtain ⟨h5, hF⟩ := chk_elim hF
    have h5_ := h5
    try simp at h5_
    try simp [h5]
    repeat' apply And.intro
    try any_goals (first | omega | (unfold maxLen; omega) | (simp [h5]; done))
    obtain ⟨v11, v12, h6, hF⟩ := bnd2_elim hF
    refine aCall_l (w_roster_Decode k _ _ _ h6) (by simp) [] [] [] rfl (.cons (.same (by simp [h5])) .nil) (by simp [h5]) (by decide) (by simp) (by simp) (.inl rfl) (by simp) (by simp) ?_
    try simp [h5]
    repeat' apply And.intro
    any_goals (first | exact hG22 _ (by kernel_rfl) | refine hR22 _ _ _ ?_ | omega | (unfold maxLen; omega) | (simp [h5]; done) | (simp [h5]; omega))
    refine AW.wk [(5, AV.lst false true (List.map (AV.int .i64) ([IntKind.wrap .i64 v0, IntKind.wrap .i64 v1] : List Int))), (6, AV.lst false false (List.map (AV.int .i64) v3)), (7, AV.int .i64 v4), (8, AV.lst false false (List.map (AV.int .i64) v5)), (9, AV.int .i64 v6), (11, AV.int .i64 v8), (13, AV.int .i64 v10), (15, AV.int .i64 v12)] [] 3 (by simp [h5]) (by simp [h5]) (by simp) ?_
    refine AW.seqR mixed [] [none, none, none, some (76, true), some (76, true), none, none, some (80, true), some (80, true), some (80, true), none, none, some (85, true), some (85, true), none, none, some (89, true), some (89, true), none, none, some (93, true), some (93, true), none, none, some (97, true), some (97, true), none, none, some (101, true), none, none] (by kernel_rfl) fun G23 R23 hG23 hR23 => ?_
    by_cases h7 : v4 = 0
    · replace hF := ite_t h7 hF
      have h7q : v4 = 0 := h7
      have h7_ := eqb_t h7q
      have h7__ := neb_f h7q
      by_cases h8 : v6 = 0
      · replace hF := ite_t h8 hF
        have h8q : v6 = 0 := h8
        have h8_ := eqb_t h8q
        have h8__ := neb_f h8q
        try simp [h5, h7_, h7__, h7q, h8_, h8__, h8q]
        repeat' apply And.intro
        try any_goals (first | omega | (unfold maxLen; omega) | (simp [h5, h7_, h7__, h7q, h8_, h8__, h8q]; done))
        obtain ⟨v13, h9, hF⟩ := bnd1_elim hF
        refine aCall_l (w_ref23_SameInts k _ _ _ h9) (by simp) [] [] [] rfl (.cons (Coe.fl (by simp [h5, h7_, h7__, h7q, h8_, h8__, h8q])) (.cons (.same (by simp [h5, h7_, h7__, h7q, h8_, h8__, h8q])) .nil)) (by simp [h5, h7_, h7__, h7q, h8_, h8__, h8q]) (by decide) (by simp) (by simp) (.inl rfl) (by simp) (by simp) ?_
        by_cases h10 : v13 = true
        · replace hF := ite_t h10 hF
          have h10_ := h10
          try simp at h10_
          try simp [h5, h7_, h7__, h7q, h8_, h8__, h8q, h10, h10_]
          repeat' apply And.intro
          try any_goals (first | omega | (unfold maxLen; omega) | (simp [h5, h7_, h7__, h7q, h8_, h8__, h8q, h10, h10_]; done))
          obtain ⟨v14, h11, hF⟩ := bnd1_elim hF
          refine aCall_l (w_roster_Valid k _ _ h11) (by simp) [] [] [] rfl (.cons (.same (by simp [h5, h7_, h7__, h7q, h8_, h8__, h8q, h10, h10_])) .nil) (by simp [h5, h7_, h7__, h7q, h8_, h8__, h8q, h10, h10_]) (by decide) (by simp) (by simp) (.inl rfl) (by simp) (by simp) ?_
          by_cases h12 : v14 = true
          · replace hF := ite_t h12 hF
            have h12_ := h12
            try simp at h12_
            by_cases h13 : v8 = 43
            · replace hF := ite_t h13 hF
              have h13q : v8 = 43 := h13
              have h13_ := eqb_t h13q
              have h13__ := neb_f h13q
              by_cases h14 : v10 = 43
              · replace hF := ite_t h14 hF
                have h14q : v10 = 43 := h14
                have h14_ := eqb_t h14q
                have h14__ := neb_f h14q
                by_cases h15 : v12 = 43
                · replace hF := ite_t h15 hF
                  have h15q : v12 = 43 := h15
                  have h15_ := eqb_t h15q
                  have h15__ := neb_f h15q
                  try simp [h5, h7_, h7__, h7q, h8_, h8__, h8q, h10, h10_, h12, h12_, h13_, h13__, h13q, h14_, h14__, h14q, h15_, h15__, h15q]
                  repeat' apply And.intro
                  try any_goals (first | omega | (unfold maxLen; omega) | (simp [h5, h7_, h7__, h7q, h8_, h8__, h8q, h10, h10_, h12, h12_, h13_, h13__, h13q, h14_, h14__, h14q, h15_, h15__, h15q]; done))
                  obtain ⟨v15, h16, hF⟩ := bnd1_elim hF
                  refine aCall_l (w_law24_awake k _ h16) (by simp) [] [] [] rfl .nil (by simp [h5, h7_, h7__, h7q, h8_, h8__, h8q, h10, h10_, h12, h12_, h13_, h13__, h13q, h14_, h14__, h14q, h15_, h15__, h15q]) (by decide) (by simp) (by simp) (.inl rfl) (by simp) (by simp) ?_
                  try simp [h5, h7_, h7__, h7q, h8_, h8__, h8q, h10, h10_, h12, h12_, h13_, h13__, h13q, h14_, h14__, h14q, h15_, h15__, h15q]
                  repeat' apply And.intro
                  any_goals (first | exact hG23 _ (by kernel_rfl) | refine hR23 _ _ _ ?_ | omega | (unfold maxLen; omega) | (simp [h5, h7_, h7__, h7q, h8_, h8__, h8q, h10, h10_, h12, h12_, h13_, h13__, h13q, h14_, h14__, h14q, h15_, h15__, h15q]; done) | (simp [h5, h7_, h7__, h7q, h8_, h8__, h8q, h10, h10_, h12, h12_, h13_, h13__, h13q, h14_, h14__, h14q, h15_, h15__, h15q]; omega))
                  refine AW.wk [(4, AV.bool v15)] [] 3 (by simp [h5, h7_, h7__, h7q, h8_, h8__, h8q, h10, h10_, h12, h12_, h13_, h13__, h13q, h14_, h14__, h14q, h15_, h15__, h15q]) (by simp [h5, h7_, h7__, h7q, h8_, h8__, h8q, h10, h10_, h12, h12_, h13_, h13__, h13q, h14_, h14__, h14q, h15_, h15__, h15q]) (by simp) ?_
                  simp only [Option.some.injEq] at hF
                  subst hF
                  refine AW.ret (hQ _ _ _ ?_ (matchO_0 ?_)).1
                  · simp [Try.f8, h5, h7_, h7__, h7q, h8_, h8__, h8q, h10, h10_, h12, h12_, h13_, h13__, h13q, h14_, h14__, h14q, h15_, h15__, h15q]
                  · simp [h5, h7_, h7__, h7q, h8_, h8__, h8q, h10, h10_, h12, h12_, h13_, h13__, h13q, h14_, h14__, h14q, h15_, h15__, h15q]
                · replace hF := ite_f h15 hF
                  have h15_ := eqb_f h15
                  have h15__ := neb_t h15
                  try simp [h5, h7_, h7__, h7q, h8_, h8__, h8q, h10, h10_, h12, h12_, h13_, h13__, h13q, h14_, h14__, h14q, h15, h15_, h15__]
                  repeat' apply And.intro
                  any_goals (first | exact hG23 _ (by kernel_rfl) | refine hR23 _ _ _ ?_ | omega | (unfold maxLen; omega) | (simp [h5, h7_, h7__, h7q, h8_, h8__, h8q, h10, h10_, h12, h12_, h13_, h13__, h13q, h14_, h14__, h14q, h15, h15_, h15__]; done) | (simp [h5, h7_, h7__, h7q, h8_, h8__, h8q, h10, h10_, h12, h12_, h13_, h13__, h13q, h14_, h14__, h14q, h15, h15_, h15__]; omega))
                  refine AW.wk [(4, AV.bool false)] [] 3 (by simp [h5, h7_, h7__, h7q, h8_, h8__, h8q, h10, h10_, h12, h12_, h13_, h13__, h13q, h14_, h14__, h14q, h15, h15_, h15__]) (by simp [h5, h7_, h7__, h7q, h8_, h8__, h8q, h10, h10_, h12, h12_, h13_, h13__, h13q, h14_, h14__, h14q, h15, h15_, h15__]) (by simp) ?_
                  simp only [Option.some.injEq] at hF
                  subst hF
                  refine AW.ret (hQ _ _ _ ?_ (matchO_0 ?_)).1
                  · simp [Try.f8, h5, h7_, h7__, h7q, h8_, h8__, h8q, h10, h10_, h12, h12_, h13_, h13__, h13q, h14_, h14__, h14q, h15, h15_, h15__]
                  · simp [h5, h7_, h7__, h7q, h8_, h8__, h8q, h10, h10_, h12, h12_, h13_, h13__, h13q, h14_, h14__, h14q, h15, h15_, h15__]
              · replace hF := ite_f h14 hF
                have h14_ := eqb_f h14
                have h14__ := neb_t h14
                try simp [h5, h7_, h7__, h7q, h8_, h8__, h8q, h10, h10_, h12, h12_, h13_, h13__, h13q, h14, h14_, h14__]
                repeat' apply And.intro
                any_goals (first | exact hG23 _ (by kernel_rfl) | refine hR23 _ _ _ ?_ | omega | (unfold maxLen; omega) | (simp [h5, h7_, h7__, h7q, h8_, h8__, h8q, h10, h10_, h12, h12_, h13_, h13__, h13q, h14, h14_, h14__]; done) | (simp [h5, h7_, h7__, h7q, h8_, h8__, h8q, h10, h10_, h12, h12_, h13_, h13__, h13q, h14, h14_, h14__]; omega))
                refine AW.wk [(4, AV.bool false)] [] 3 (by simp [h5, h7_, h7__, h7q, h8_, h8__, h8q, h10, h10_, h12, h12_, h13_, h13__, h13q, h14, h14_, h14__]) (by simp [h5, h7_, h7__, h7q, h8_, h8__, h8q, h10, h10_, h12, h12_, h13_, h13__, h13q, h14, h14_, h14__]) (by simp) ?_
                simp only [Option.some.injEq] at hF
                subst hF
                refine AW.ret (hQ _ _ _ ?_ (matchO_0 ?_)).1
                · simp [Try.f8, h5, h7_, h7__, h7q, h8_, h8__, h8q, h10, h10_, h12, h12_, h13_, h13__, h13q, h14, h14_, h14__]
                · simp [h5, h7_, h7__, h7q, h8_, h8__, h8q, h10, h10_, h12, h12_, h13_, h13__, h13q, h14, h14_, h14__]
            · replace hF := ite_f h13 hF
              have h13_ := eqb_f h13
              have h13__ := neb_t h13
              try simp [h5, h7_, h7__, h7q, h8_, h8__, h8q, h10, h10_, h12, h12_, h13, h13_, h13__]
              repeat' apply And.intro
              any_goals (first | exact hG23 _ (by kernel_rfl) | refine hR23 _ _ _ ?_ | omega | (unfold maxLen; omega) | (simp [h5, h7_, h7__, h7q, h8_, h8__, h8q, h10, h10_, h12, h12_, h13, h13_, h13__]; done) | (simp [h5, h7_, h7__, h7q, h8_, h8__, h8q, h10, h10_, h12, h12_, h13, h13_, h13__]; omega))
              refine AW.wk [(4, AV.bool false)] [] 3 (by simp [h5, h7_, h7__, h7q, h8_, h8__, h8q, h10, h10_, h12, h12_, h13, h13_, h13__]) (by simp [h5, h7_, h7__, h7q, h8_, h8__, h8q, h10, h10_, h12, h12_, h13, h13_, h13__]) (by simp) ?_
              simp only [Option.some.injEq] at hF
              subst hF
              refine AW.ret (hQ _ _ _ ?_ (matchO_0 ?_)).1
              · simp [Try.f8, h5, h7_, h7__, h7q, h8_, h8__, h8q, h10, h10_, h12, h12_, h13, h13_, h13__]
              · simp [h5, h7_, h7__, h7q, h8_, h8__, h8q, h10, h10_, h12, h12_, h13, h13_, h13__]
          · replace hF := ite_f h12 hF
            have h12_ := h12
            try simp at h12_
            try simp [h5, h7_, h7__, h7q, h8_, h8__, h8q, h10, h10_, h12, h12_]
            repeat' apply And.intro
            any_goals (first | exact hG23 _ (by kernel_rfl) | refine hR23 _ _ _ ?_ | omega | (unfold maxLen; omega) | (simp [h5, h7_, h7__, h7q, h8_, h8__, h8q, h10, h10_, h12, h12_]; done) | (simp [h5, h7_, h7__, h7q, h8_, h8__, h8q, h10, h10_, h12, h12_]; omega))
            refine AW.wk [(4, AV.bool false)] [] 3 (by simp [h5, h7_, h7__, h7q, h8_, h8__, h8q, h10, h10_, h12, h12_]) (by simp [h5, h7_, h7__, h7q, h8_, h8__, h8q, h10, h10_, h12, h12_]) (by simp) ?_
            simp only [Option.some.injEq] at hF
            subst hF
            refine AW.ret (hQ _ _ _ ?_ (matchO_0 ?_)).1
            · simp [Try.f8, h5, h7_, h7__, h7q, h8_, h8__, h8q, h10, h10_, h12, h12_]
            · simp [h5, h7_, h7__, h7q, h8_, h8__, h8q, h10, h10_, h12, h12_]
        · replace hF := ite_f h10 hF
          have h10_ := h10
          try simp at h10_
          try simp [h5, h7_, h7__, h7q, h8_, h8__, h8q, h10, h10_]
          repeat' apply And.intro
          any_goals (first | exact hG23 _ (by kernel_rfl) | refine hR23 _ _ _ ?_ | omega | (unfold maxLen; omega) | (simp [h5, h7_, h7__, h7q, h8_, h8__, h8q, h10, h10_]; done) | (simp [h5, h7_, h7__, h7q, h8_, h8__, h8q, h10, h10_]; omega))
          refine AW.wk [(4, AV.bool false)] [] 3 (by simp [h5, h7_, h7__, h7q, h8_, h8__, h8q, h10, h10_]) (by simp [h5, h7_, h7__, h7q, h8_, h8__, h8q, h10, h10_]) (by simp) ?_
          simp only [Option.some.injEq] at hF
          subst hF
          refine AW.ret (hQ _ _ _ ?_ (matchO_0 ?_)).1
          · simp [Try.f8, h5, h7_, h7__, h7q, h8_, h8__, h8q, h10, h10_]
          · simp [h5, h7_, h7__, h7q, h8_, h8__, h8q, h10, h10_]
      · replace hF := ite_f h8 hF
        have h8_ := eqb_f h8
        have h8__ := neb_t h8
        try simp [h5, h7_, h7__, h7q, h8, h8_, h8__]
        repeat' apply And.intro
        any_goals (first | exact hG23 _ (by kernel_rfl) | refine hR23 _ _ _ ?_ | omega | (unfold maxLen; omega) | (simp [h5, h7_, h7__, h7q, h8, h8_, h8__]; done) | (simp [h5, h7_, h7__, h7q, h8, h8_, h8__]; omega))
        refine AW.wk [(4, AV.bool false)] [] 3 (by simp [h5, h7_, h7__, h7q, h8, h8_, h8__]) (by simp [h5, h7_, h7__, h7q, h8, h8_, h8__]) (by simp) ?_
        simp only [Option.some.injEq] at hF
        subst hF
        refine AW.ret (hQ _ _ _ ?_ (matchO_0 ?_)).1
        · simp [Try.f8, h5, h7_, h7__, h7q, h8, h8_, h8__]
        · simp [h5, h7_, h7__, h7q, h8, h8_, h8__]
    · replace hF := ite_f h7 hF
      have h7_ := eqb_f h7
      have h7__ := neb_t h7
      try simp [h5, h7, h7_, h7__]
      repeat' apply And.intro
      any_goals (first | exact hG23 _ (by kernel_rfl) | refine hR23 _ _ _ ?_ | omega | (unfold maxLen; omega) | (simp [h5, h7, h7_, h7__]; done) | (simp [h5, h7, h7_, h7__]; omega))
      refine AW.wk [(4, AV.bool false)] [] 3 (by simp [h5, h7, h7_, h7__]) (by simp [h5, h7, h7_, h7__]) (by simp) ?_
      simp only [Option.some.injEq] at hF
      subst hF
      refine AW.ret (hQ _ _ _ ?_ (matchO_0 ?_)).1
      · simp [Try.f8, h5, h7, h7_, h7__]
      · simp [h5, h7, h7_, h7__]
end Go.TF
