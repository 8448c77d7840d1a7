/- Walks: the Go text computes the Lean functions (printed by a program of our own). -/
import Derived.Test.YtgadcpbcbbmeaaaAPu
import Derived.Test.YtgadcpbcbbmeaaaAAbsT
import Derived.Test.YtgadcpbcbbmeaaaAWa0
import Derived.Test.YtgadcpbcbbmeaaaAWa1
set_option linter.unusedVariables false
set_option linter.unusedSimpArgs false
set_option maxRecDepth 100000
namespace Go.TF
open Go Go.Abs Go.Proofs Go.Proofs.YtgadcpbcbbmeaaaAT
set_option maxHeartbeats 4000000 in
theorem w_ref23_SameInts (k : Nat) (v0 : (List Int)) (v1 : (List Int)) (v2 : Bool) (hF : ref23_SameInts k v0 v1 = some v2) :
    FCall Try.prog 40 [AV.lst false false (List.map (AV.int .i64) v0), AV.lst false false (List.map (AV.int .i64) v1)] [] (AV.bool v2) [] := by
  unfold ref23_SameInts at hF
  refine FCall.enter Try.func40 rfl (by simp) (by decide) (by simp) (by simp) (by simp) (by simp) (by simp) ?_
  intro c0 w0 Q h0 hQ
  refine AW.wk [(0, AV.lst false false (List.map (AV.int .i64) v0)), (1, AV.lst false false (List.map (AV.int .i64) v1))] [] 0 (by simp) (by simp) (by simp) ?_
  refine AW.seqR mixed [] [none] (by kernel_rfl) fun G85 R85 hG85 hR85 => ?_
  try simp
  repeat' apply And.intro
  any_goals (first | exact hG85 _ (by kernel_rfl) | refine hR85 _ _ _ ?_ | omega | (unfold maxLen; omega) | (simp; done) | (simp; omega))
  refine AW.wk [(0, AV.lst false false (List.map (AV.int .i64) v0)), (1, AV.lst false false (List.map (AV.int .i64) v1))] [] 0 (by simp) (by simp) (by simp) ?_
  refine AW.seq fun K88 hK88 => ?_
  refine AW.seqR mixed [] [none, none, none, none, none] (by kernel_rfl) fun G89 R89 hG89 hR89 => ?_
  try simp
  repeat' apply And.intro
  any_goals (first | exact hG89 _ (by kernel_rfl) | refine hR89 _ _ _ ?_ | omega | (unfold maxLen; omega) | (simp; done) | (simp; omega))
  refine AW.wk [(0, AV.lst false false (List.map (AV.int .i64) v0)), (1, AV.lst false false (List.map (AV.int .i64) v1)), (10, AV.bool ((v0.length : Int) != (v1.length : Int)))] [] 0 (by simp) (by simp) (by simp) ?_
  by_cases h1 : (v0.length : Int) ≠ (v1.length : Int)
  · replace hF := ite_t h1 hF
    have h1_ := eqb_f h1
    have h1__ := neb_t h1
    refine AW.condT (by decide) (by first | (simp [h1, h1_, h1__]; done) | (simp [h1, h1_, h1__]; omega)) ?_
    refine AW.seqR mixed [] [none] (by kernel_rfl) fun G90 R90 hG90 hR90 => ?_
    try simp [h1, h1_, h1__]
    repeat' apply And.intro
    any_goals (first | exact hG90 _ (by kernel_rfl) | refine hR90 _ _ _ ?_ | omega | (unfold maxLen; omega) | (simp [h1, h1_, h1__]; done) | (simp [h1, h1_, h1__]; omega))
    refine AW.wk [(4, AV.bool false)] [] 0 (by simp [h1, h1_, h1__]) (by simp [h1, h1_, h1__]) (by simp) ?_
    simp only [Option.some.injEq] at hF
    subst hF
    refine AW.ret (hQ _ _ _ ?_ (matchO_0 ?_)).1
    · simp [Try.f40, h1, h1_, h1__]
    · simp [h1, h1_, h1__]
  · replace hF := ite_f h1 hF
    have h1q : (v0.length : Int) = (v1.length : Int) := Classical.not_not.1 h1
    have h1_ := eqb_t h1q
    have h1__ := neb_f h1q
    refine AW.condF (by decide) (by first | (simp [h1_, h1__]; done) | (simp [h1_, h1__]; omega)) ?_
    refine AW.skip ?_
    refine hK88 _ _ _ ?_
    refine AW.seq fun K129 hK129 => ?_
    refine AW.seqR mixed [] [none] (by kernel_rfl) fun G130 R130 hG130 hR130 => ?_
    try simp [h1_, h1__]
    repeat' apply And.intro
    any_goals (first | exact hG130 _ (by kernel_rfl) | refine hR130 _ _ _ ?_ | omega | (unfold maxLen; omega) | (simp [h1_, h1__]; done) | (simp [h1_, h1__]; omega))
    refine AW.wk [(0, AV.lst false false (List.map (AV.int .i64) v0)), (1, AV.lst false false (List.map (AV.int .i64) v1)), (5, AV.int .i64 0)] [] 0 (by simp [h1_, h1__]) (by simp [h1_, h1__]) (by simp) ?_
    refine AW.block ?_
    refine AW.loopF (α := Int) (fun n v3 => ref23_SameInts.L1 k v0 v1 n v3 = some v2) (fun v3 => [(0, AV.lst false false (List.map (AV.int .i64) v0)), (1, AV.lst false false (List.map (AV.int .i64) v1)), (5, AV.int .i64 v3)]) (fun v3 => []) 0 k (0) hF (by simp [h1_, h1__]) (by simp [h1_, h1__]) (by simp) ?_
    rintro (_|n1) v3 hF K158 hK158
    · try dsimp only at hF
      rw [ref23_SameInts.L1] at hF; cases hF
    try dsimp only at hF
    rw [ref23_SameInts.L1] at hF
    refine AW.seq fun K160 hK160 => ?_
    refine AW.seqR mixed [] [none, none, none, none] (by kernel_rfl) fun G161 R161 hG161 hR161 => ?_
    try simp [h1_, h1__]
    repeat' apply And.intro
    any_goals (first | exact hG161 _ (by kernel_rfl) | refine hR161 _ _ _ ?_ | omega | (unfold maxLen; omega) | (simp [h1_, h1__]; done) | (simp [h1_, h1__]; omega))
    refine AW.wk [(0, AV.lst false false (List.map (AV.int .i64) v0)), (1, AV.lst false false (List.map (AV.int .i64) v1)), (5, AV.int .i64 v3), (14, AV.bool (decide (v3 < (v0.length : Int))))] [] 0 (by simp [h1_, h1__]) (by simp [h1_, h1__]) (by simp) ?_
    by_cases h2 : v3 < (v0.length : Int)
    · replace hF := ite_t h2 hF
      have h2_ := h2
      try simp at h2_
      refine AW.condT (by decide) (by first | (simp [h1_, h1__, h2, h2_]; done) | (simp [h1_, h1__, h2, h2_]; omega)) ?_
      refine AW.skip ?_
      refine hK160 _ _ _ ?_
      refine AW.seq fun K164 hK164 => ?_
      refine AW.block ?_
      refine AW.seqR mixed [] [none, none, none, none, none, none, none, none, none] (by kernel_rfl) fun G165 R165 hG165 hR165 => ?_
      obtain ⟨v4, h3, h4, h5, hF⟩ := idx_elim hF
      have h5_ := get_of h5
      try simp at h5_
      have h4_ := h4
      try simp at h4_
      obtain ⟨v5, h6, h7, h8, hF⟩ := idx_elim hF
      have h8_ := get_of h8
      try simp at h8_
      have h7_ := h7
      try simp at h7_
      try simp [h1_, h1__, h2, h2_, h3, h4, h5, h5_, h4_, h6, h7, h8, h8_, h7_]
      repeat' apply And.intro
      any_goals (first | exact hG165 _ (by kernel_rfl) | refine hR165 _ _ _ ?_ | omega | (unfold maxLen; omega) | (simp [h1_, h1__, h2, h2_, h3, h4, h5, h5_, h4_, h6, h7, h8, h8_, h7_]; done) | (simp [h1_, h1__, h2, h2_, h3, h4, h5, h5_, h4_, h6, h7, h8, h8_, h7_]; omega))
      refine AW.wk [(0, AV.lst false false (List.map (AV.int .i64) v0)), (1, AV.lst false false (List.map (AV.int .i64) v1)), (5, AV.int .i64 v3), (25, AV.bool (v4 != v5))] [] 0 (by simp [h1_, h1__, h2, h2_, h3, h4, h5, h5_, h4_, h6, h7, h8, h8_, h7_]) (by simp [h1_, h1__, h2, h2_, h3, h4, h5, h5_, h4_, h6, h7, h8, h8_, h7_]) (by simp) ?_
      by_cases h9 : v4 ≠ v5
      · replace hF := ite_t h9 hF
        have h9_ := eqb_f h9
        have h9__ := neb_t h9
        refine AW.condT (by decide) (by first | (simp [h1_, h1__, h2, h2_, h3, h4, h5, h5_, h4_, h6, h7, h8, h8_, h7_, h9, h9_, h9__]; done) | (simp [h1_, h1__, h2, h2_, h3, h4, h5, h5_, h4_, h6, h7, h8, h8_, h7_, h9, h9_, h9__]; omega)) ?_
        refine AW.seqR mixed [] [none] (by kernel_rfl) fun G166 R166 hG166 hR166 => ?_
        try simp [h1_, h1__, h2, h2_, h3, h4, h5, h5_, h4_, h6, h7, h8, h8_, h7_, h9, h9_, h9__]
        repeat' apply And.intro
        any_goals (first | exact hG166 _ (by kernel_rfl) | refine hR166 _ _ _ ?_ | omega | (unfold maxLen; omega) | (simp [h1_, h1__, h2, h2_, h3, h4, h5, h5_, h4_, h6, h7, h8, h8_, h7_, h9, h9_, h9__]; done) | (simp [h1_, h1__, h2, h2_, h3, h4, h5, h5_, h4_, h6, h7, h8, h8_, h7_, h9, h9_, h9__]; omega))
        refine AW.wk [(4, AV.bool false)] [] 0 (by simp [h1_, h1__, h2, h2_, h3, h4, h5, h5_, h4_, h6, h7, h8, h8_, h7_, h9, h9_, h9__]) (by simp [h1_, h1__, h2, h2_, h3, h4, h5, h5_, h4_, h6, h7, h8, h8_, h7_, h9, h9_, h9__]) (by simp) ?_
        simp only [Option.some.injEq] at hF
        subst hF
        refine AW.ret (hQ _ _ _ ?_ (matchO_0 ?_)).1
        · simp [Try.f40, h1_, h1__, h2, h2_, h3, h4, h5, h5_, h4_, h6, h7, h8, h8_, h7_, h9, h9_, h9__]
        · simp [h1_, h1__, h2, h2_, h3, h4, h5, h5_, h4_, h6, h7, h8, h8_, h7_, h9, h9_, h9__]
      · replace hF := ite_f h9 hF
        have h9q : v4 = v5 := Classical.not_not.1 h9
        have h9_ := eqb_t h9q
        have h9__ := neb_f h9q
        refine AW.condF (by decide) (by first | (simp [h1_, h1__, h2, h2_, h3, h4, h5, h5_, h4_, h6, h7, h8, h8_, h7_, h9_, h9__]; done) | (simp [h1_, h1__, h2, h2_, h3, h4, h5, h5_, h4_, h6, h7, h8, h8_, h7_, h9_, h9__]; omega)) ?_
        refine AW.skip ?_
        refine hK164 _ _ _ ?_
        refine AW.region mixed [] [none, none, none] (by kernel_rfl) fun G167 R167 hG167 hR167 => ?_
        try simp [h1_, h1__, h2, h2_, h3, h4, h5, h5_, h4_, h6, h7, h8, h8_, h7_, h9_, h9__]
        repeat' apply And.intro
        any_goals (first | exact hG167 _ (by kernel_rfl) | refine hR167 _ _ _ ?_ | omega | (unfold maxLen; omega) | (simp [h1_, h1__, h2, h2_, h3, h4, h5, h5_, h4_, h6, h7, h8, h8_, h7_, h9_, h9__]; done) | (simp [h1_, h1__, h2, h2_, h3, h4, h5, h5_, h4_, h6, h7, h8, h8_, h7_, h9_, h9__]; omega))
        refine hK158 _ _ _ ?_
        refine Can.weak [(0, AV.lst false false (List.map (AV.int .i64) v0)), (1, AV.lst false false (List.map (AV.int .i64) v1)), (5, AV.int .i64 (IntKind.wrap .i64 (v3 + 1)))] [] 0 (by simp [h1_, h1__, h2, h2_, h3, h4, h5, h5_, h4_, h6, h7, h8, h8_, h7_, h9_, h9__]) (by simp [h1_, h1__, h2, h2_, h3, h4, h5, h5_, h4_, h6, h7, h8, h8_, h7_, h9_, h9__]) (by simp) ?_
        exact Can.next (k' := n1) (IntKind.wrap .i64 (v3 + 1)) (by omega) hF (by simp [h1_, h1__, h2, h2_, h3, h4, h5, h5_, h4_, h6, h7, h8, h8_, h7_, h9_, h9__]) (by simp [h1_, h1__, h2, h2_, h3, h4, h5, h5_, h4_, h6, h7, h8, h8_, h7_, h9_, h9__]) (by simp)
    · replace hF := ite_f h2 hF
      have h2_ := h2
      try simp at h2_
      refine AW.condF (by decide) (by first | (simp [h1_, h1__, h2, h2_]; done) | (simp [h1_, h1__, h2, h2_]; omega)) ?_
      refine AW.exit ?_
      try simp
      refine hK129 _ _ _ ?_
      refine AW.seqR mixed [] [none] (by kernel_rfl) fun G168 R168 hG168 hR168 => ?_
      try simp [h1_, h1__, h2, h2_]
      repeat' apply And.intro
      any_goals (first | exact hG168 _ (by kernel_rfl) | refine hR168 _ _ _ ?_ | omega | (unfold maxLen; omega) | (simp [h1_, h1__, h2, h2_]; done) | (simp [h1_, h1__, h2, h2_]; omega))
      refine AW.wk [(4, AV.bool true)] [] 0 (by simp [h1_, h1__, h2, h2_]) (by simp [h1_, h1__, h2, h2_]) (by simp) ?_
      simp only [Option.some.injEq] at hF
      subst hF
      refine AW.ret (hQ _ _ _ ?_ (matchO_0 ?_)).1
      · simp [Try.f40, h1_, h1__, h2, h2_]
      · simp [h1_, h1__, h2, h2_]
set_option maxHeartbeats 4000000 in
theorem w_law24_awake (k : Nat) (v0 : Bool) (hF : law24_awake k = some v0) :
    FCall Try.prog 49 [] [] (AV.bool v0) [] := by
  unfold law24_awake at hF
  refine FCall.enter Try.func49 rfl (by simp) (by decide) (by simp) (by simp) (by simp) (by simp) (by simp) ?_
  intro c0 w0 Q h0 hQ
  refine AW.wk [] [] 0 (by simp) (by simp) (by simp) ?_
  refine AW.seqR mixed [] [none] (by kernel_rfl) fun G5 R5 hG5 hR5 => ?_
  try simp
  repeat' apply And.intro
  any_goals (first | exact hG5 _ (by kernel_rfl) | refine hR5 _ _ _ ?_ | omega | (unfold maxLen; omega) | (simp; done) | (simp; omega))
  refine AW.wk [] [] 0 (by simp) (by simp) (by simp) ?_
  refine AW.seqR mixed [] [none, none, none, none, none, none, none] (by kernel_rfl) fun G6 R6 hG6 hR6 => ?_
  try simp
  repeat' apply And.intro
  try any_goals (first | omega | (unfold maxLen; omega) | (simp; done))
  obtain ⟨v1, v2, h1, hF⟩ := bnd2_elim hF
  refine aCall_l (w_roster_Encode k _ _ _ h1) (by simp) [] [] [] rfl (.cons (Coe.fl (by simp)) .nil) (by simp) (by decide) (by simp) (by simp) (.inl rfl) (by simp) (by simp) ?_
  try simp
  repeat' apply And.intro
  any_goals (first | exact hG6 _ (by kernel_rfl) | refine hR6 _ _ _ ?_ | omega | (unfold maxLen; omega) | (simp; done) | (simp; omega))
  refine AW.wk [(1, AV.lst false false (List.map (AV.int .i64) v1)), (2, AV.int .i64 v2)] [] 0 (by simp) (by simp) (by simp) ?_
  refine AW.seqR mixed [] [none, none, none, none, none, none, none] (by kernel_rfl) fun G7 R7 hG7 hR7 => ?_
  try simp
  repeat' apply And.intro
  try any_goals (first | omega | (unfold maxLen; omega) | (simp; done))
  obtain ⟨v3, v4, h2, hF⟩ := bnd2_elim hF
  refine aCall_l (w_roster_Decode k _ _ _ h2) (by simp) [] [] [] rfl (.cons (.same (by simp)) .nil) (by simp) (by decide) (by simp) (by simp) (.inl rfl) (by simp) (by simp) ?_
  try simp
  repeat' apply And.intro
  any_goals (first | exact hG7 _ (by kernel_rfl) | refine hR7 _ _ _ ?_ | omega | (unfold maxLen; omega) | (simp; done) | (simp; omega))
  refine AW.wk [(1, AV.lst false false (List.map (AV.int .i64) v1)), (2, AV.int .i64 v2), (3, AV.slc 0 0 1 v3.length false), (4, AV.int .i64 v4)] [(0, .grow (List.map (AV.int .i64) v3))] 1 (by simp) (by simp) (by simp) ?_
  refine AW.frz 0 (o := .grow (List.map (AV.int .i64) v3)) (by simp) rfl [(3, AV.lst false false (List.map (AV.int .i64) v3))] [] ⟨(.l (by simp) (by simp) (by simp) (by simp)), trivial⟩ trivial ?_
  refine AW.wk [(1, AV.lst false false (List.map (AV.int .i64) v1)), (2, AV.int .i64 v2), (3, AV.lst false false (List.map (AV.int .i64) v3)), (4, AV.int .i64 v4)] [] 1 (by simp) (by simp) (by simp) ?_
  refine AW.seqR mixed [] [none, none, none, some (17, true), some (17, true), none, none, some (21, true), some (21, true), some (21, true), none, none, some (26, true), some (26, true), some (26, true), none, none] (by kernel_rfl) fun G8 R8 hG8 hR8 => ?_
  by_cases h3 : v2 = 0
  · replace hF := ite_t h3 hF
    have h3q : v2 = 0 := h3
    have h3_ := eqb_t h3q
    have h3__ := neb_f h3q
    by_cases h4 : v4 = 0
    · replace hF := ite_t h4 hF
      have h4q : v4 = 0 := h4
      have h4_ := eqb_t h4q
      have h4__ := neb_f h4q
      try simp [h3_, h3__, h3q, h4_, h4__, h4q]
      repeat' apply And.intro
      try any_goals (first | omega | (unfold maxLen; omega) | (simp [h3_, h3__, h3q, h4_, h4__, h4q]; done))
      obtain ⟨v5, h5, hF⟩ := bnd1_elim hF
      refine aCall_l (w_ref23_SameInts k _ _ _ h5) (by simp) [] [] [] rfl (.cons (.same (by simp [h3_, h3__, h3q, h4_, h4__, h4q])) (.cons (Coe.fl (by simp [h3_, h3__, h3q, h4_, h4__, h4q])) .nil)) (by simp [h3_, h3__, h3q, h4_, h4__, h4q]) (by decide) (by simp) (by simp) (.inl rfl) (by simp) (by simp) ?_
      by_cases h6 : v5 = true
      · replace hF := ite_t h6 hF
        have h6_ := h6
        try simp at h6_
        try simp [h3_, h3__, h3q, h4_, h4__, h4q, h6, h6_]
        repeat' apply And.intro
        try any_goals (first | omega | (unfold maxLen; omega) | (simp [h3_, h3__, h3q, h4_, h4__, h4q, h6, h6_]; done))
        obtain ⟨v6, h7, hF⟩ := bnd1_elim hF
        refine aCall_l (w_ref23_SameInts k _ _ _ h7) (by simp) [] [] [] rfl (.cons (.same (by simp [h3_, h3__, h3q, h4_, h4__, h4q, h6, h6_])) (.cons (Coe.fl (by simp [h3_, h3__, h3q, h4_, h4__, h4q, h6, h6_])) .nil)) (by simp [h3_, h3__, h3q, h4_, h4__, h4q, h6, h6_]) (by decide) (by simp) (by simp) (.inl rfl) (by simp) (by simp) ?_
        try simp [h3_, h3__, h3q, h4_, h4__, h4q, h6, h6_]
        repeat' apply And.intro
        any_goals (first | exact hG8 _ (by kernel_rfl) | refine hR8 _ _ _ ?_ | omega | (unfold maxLen; omega) | (simp [h3_, h3__, h3q, h4_, h4__, h4q, h6, h6_]; done) | (simp [h3_, h3__, h3q, h4_, h4__, h4q, h6, h6_]; omega))
        refine AW.wk [(0, AV.bool v6)] [] 1 (by simp [h3_, h3__, h3q, h4_, h4__, h4q, h6, h6_]) (by simp [h3_, h3__, h3q, h4_, h4__, h4q, h6, h6_]) (by simp) ?_
        simp only [Option.some.injEq] at hF
        subst hF
        refine AW.ret (hQ _ _ _ ?_ (matchO_0 ?_)).1
        · simp [Try.f49, h3_, h3__, h3q, h4_, h4__, h4q, h6, h6_]
        · simp [h3_, h3__, h3q, h4_, h4__, h4q, h6, h6_]
      · replace hF := ite_f h6 hF
        have h6_ := h6
        try simp at h6_
        try simp [h3_, h3__, h3q, h4_, h4__, h4q, h6, h6_]
        repeat' apply And.intro
        any_goals (first | exact hG8 _ (by kernel_rfl) | refine hR8 _ _ _ ?_ | omega | (unfold maxLen; omega) | (simp [h3_, h3__, h3q, h4_, h4__, h4q, h6, h6_]; done) | (simp [h3_, h3__, h3q, h4_, h4__, h4q, h6, h6_]; omega))
        refine AW.wk [(0, AV.bool false)] [] 1 (by simp [h3_, h3__, h3q, h4_, h4__, h4q, h6, h6_]) (by simp [h3_, h3__, h3q, h4_, h4__, h4q, h6, h6_]) (by simp) ?_
        simp only [Option.some.injEq] at hF
        subst hF
        refine AW.ret (hQ _ _ _ ?_ (matchO_0 ?_)).1
        · simp [Try.f49, h3_, h3__, h3q, h4_, h4__, h4q, h6, h6_]
        · simp [h3_, h3__, h3q, h4_, h4__, h4q, h6, h6_]
    · replace hF := ite_f h4 hF
      have h4_ := eqb_f h4
      have h4__ := neb_t h4
      try simp [h3_, h3__, h3q, h4, h4_, h4__]
      repeat' apply And.intro
      any_goals (first | exact hG8 _ (by kernel_rfl) | refine hR8 _ _ _ ?_ | omega | (unfold maxLen; omega) | (simp [h3_, h3__, h3q, h4, h4_, h4__]; done) | (simp [h3_, h3__, h3q, h4, h4_, h4__]; omega))
      refine AW.wk [(0, AV.bool false)] [] 1 (by simp [h3_, h3__, h3q, h4, h4_, h4__]) (by simp [h3_, h3__, h3q, h4, h4_, h4__]) (by simp) ?_
      simp only [Option.some.injEq] at hF
      subst hF
      refine AW.ret (hQ _ _ _ ?_ (matchO_0 ?_)).1
      · simp [Try.f49, h3_, h3__, h3q, h4, h4_, h4__]
      · simp [h3_, h3__, h3q, h4, h4_, h4__]
  · replace hF := ite_f h3 hF
    have h3_ := eqb_f h3
    have h3__ := neb_t h3
    try simp [h3, h3_, h3__]
    repeat' apply And.intro
    any_goals (first | exact hG8 _ (by kernel_rfl) | refine hR8 _ _ _ ?_ | omega | (unfold maxLen; omega) | (simp [h3, h3_, h3__]; done) | (simp [h3, h3_, h3__]; omega))
    refine AW.wk [(0, AV.bool false)] [] 1 (by simp [h3, h3_, h3__]) (by simp [h3, h3_, h3__]) (by simp) ?_
    simp only [Option.some.injEq] at hF
    subst hF
    refine AW.ret (hQ _ _ _ ?_ (matchO_0 ?_)).1
    · simp [Try.f49, h3, h3_, h3__]
    · simp [h3, h3_, h3__]
set_option maxHeartbeats 4000000 in
theorem w_made_Roll (k : Nat) (v0 : (List Int)) (v1 : (List Int)) (v2 : Int) (hF : made_Roll k v0 = some (v1, v2)) :
    FCall Try.prog 90 [AV.lst false false (List.map (AV.int .i64) v0)] [] (AV.ptr 0 0) [some (.cells [AV.lst false false (List.map (AV.int .i64) v1), AV.int .i64 v2])] := by
  unfold made_Roll at hF
  refine FCall.enter Try.func90 rfl (by simp) (by decide) (by simp) (by simp) (by simp) (by simp) (by simp) ?_
  intro c0 w0 Q h0 hQ
  refine AW.wk [(0, AV.lst false false (List.map (AV.int .i64) v0))] [] 0 (by simp) (by simp) (by simp) ?_
  refine AW.seqR mixed [] [none] (by kernel_rfl) fun G3 R3 hG3 hR3 => ?_
  try simp
  repeat' apply And.intro
  any_goals (first | exact hG3 _ (by kernel_rfl) | refine hR3 _ _ _ ?_ | omega | (unfold maxLen; omega) | (simp; done) | (simp; omega))
  refine AW.wk [(0, AV.lst false false (List.map (AV.int .i64) v0))] [] 0 (by simp) (by simp) (by simp) ?_
  refine AW.seqR mixed [] [none, none, none, none] (by kernel_rfl) fun G4 R4 hG4 hR4 => ?_
  try simp
  repeat' apply And.intro
  any_goals (first | exact hG4 _ (by kernel_rfl) | refine hR4 _ _ _ ?_ | omega | (unfold maxLen; omega) | (simp; done) | (simp; omega))
  refine AW.wk [(2, AV.ptr 0 0)] [(0, .cells [AV.lst false false (List.map (AV.int .i64) v0), AV.int .i64 0])] 1 (by simp) (by simp) (by simp) ?_
  simp only [Option.some.injEq, Prod.mk.injEq] at hF
  obtain ⟨e0, e1⟩ := hF
  subst e0 e1
  refine AW.ret (hQ _ _ _ ?_ (matchO_0 ?_)).1
  · simp [Try.f90]
  · simp
set_option maxHeartbeats 4000000 in
theorem w_mill_Roll (k : Nat) (v0 : (List Int)) (v1 : (List Int)) (v2 : Int) (hF : mill_Roll k v0 = some (v1, v2)) :
    FCall Try.prog 27 [AV.lst false false (List.map (AV.int .i64) v0)] [] (AV.ptr 0 0) [some (.cells [AV.lst false false (List.map (AV.int .i64) v1), AV.int .i64 v2])] := by
  unfold mill_Roll at hF
  refine FCall.enter Try.func27 rfl (by simp) (by decide) (by simp) (by simp) (by simp) (by simp) (by simp) ?_
  intro c0 w0 Q h0 hQ
  refine AW.wk [(0, AV.lst false false (List.map (AV.int .i64) v0))] [] 0 (by simp) (by simp) (by simp) ?_
  refine AW.seqR mixed [] [none] (by kernel_rfl) fun G3 R3 hG3 hR3 => ?_
  try simp
  repeat' apply And.intro
  any_goals (first | exact hG3 _ (by kernel_rfl) | refine hR3 _ _ _ ?_ | omega | (unfold maxLen; omega) | (simp; done) | (simp; omega))
  refine AW.wk [(0, AV.lst false false (List.map (AV.int .i64) v0))] [] 0 (by simp) (by simp) (by simp) ?_
  refine AW.seqR mixed [] [none, none, none] (by kernel_rfl) fun G4 R4 hG4 hR4 => ?_
  try simp
  repeat' apply And.intro
  try any_goals (first | omega | (unfold maxLen; omega) | (simp; done))
  obtain ⟨v3, v4, h1, hF⟩ := bnd2_elim hF
  refine aCall_l (w_made_Roll k _ _ _ h1) (by simp) [] [] [] rfl (.cons (.same (by simp)) .nil) (by simp) (by decide) (by simp) (by simp) (.inl rfl) (by simp) (by simp) ?_
  try simp
  repeat' apply And.intro
  any_goals (first | exact hG4 _ (by kernel_rfl) | refine hR4 _ _ _ ?_ | omega | (unfold maxLen; omega) | (simp; done) | (simp; omega))
  refine AW.wk [(2, AV.ptr 0 0)] [(0, .cells [AV.lst false false (List.map (AV.int .i64) v3), AV.int .i64 v4])] 1 (by simp) (by simp) (by simp) ?_
  simp only [Option.some.injEq, Prod.mk.injEq] at hF
  obtain ⟨e0, e1⟩ := hF
  subst e0 e1
  refine AW.ret (hQ _ _ _ ?_ (matchO_0 ?_)).1
  · simp [Try.f27]
  · simp
set_option maxHeartbeats 4000000 in
theorem w_made_Mod (k : Nat) (v0 : Int) (v1 : Int) (v2 : Int) (hF : made_Mod k v0 v1 = some v2) :
    FCall Try.prog 93 [AV.int .i64 v0, AV.int .i64 v1] [] (AV.int .i64 v2) [] := by
  unfold made_Mod at hF
  refine FCall.enter Try.func93 rfl (by simp) (by decide) (by simp) (by simp) (by simp) (by simp) (by simp) ?_
  intro c0 w0 Q h0 hQ
  refine AW.wk [(0, AV.int .i64 v0), (1, AV.int .i64 v1)] [] 0 (by simp) (by simp) (by simp) ?_
  refine AW.seqR mixed [] [none] (by kernel_rfl) fun G14 R14 hG14 hR14 => ?_
  try simp
  repeat' apply And.intro
  any_goals (first | exact hG14 _ (by kernel_rfl) | refine hR14 _ _ _ ?_ | omega | (unfold maxLen; omega) | (simp; done) | (simp; omega))
  refine AW.wk [(0, AV.int .i64 v0), (1, AV.int .i64 v1)] [] 0 (by simp) (by simp) (by simp) ?_
  refine AW.seq fun K17 hK17 => ?_
  refine AW.seqR mixed [] [none, none] (by kernel_rfl) fun G18 R18 hG18 hR18 => ?_
  try simp
  repeat' apply And.intro
  any_goals (first | exact hG18 _ (by kernel_rfl) | refine hR18 _ _ _ ?_ | omega | (unfold maxLen; omega) | (simp; done) | (simp; omega))
  refine AW.wk [(0, AV.int .i64 v0), (1, AV.int .i64 v1), (6, AV.bool (decide (v1 < 1)))] [] 0 (by simp) (by simp) (by simp) ?_
  by_cases h1 : v1 < 1
  · replace hF := ite_t h1 hF
    have h1_ := h1
    try simp at h1_
    refine AW.condT (by decide) (by first | (simp [h1, h1_]; done) | (simp [h1, h1_]; omega)) ?_
    refine AW.seqR mixed [] [none] (by kernel_rfl) fun G19 R19 hG19 hR19 => ?_
    try simp [h1, h1_]
    repeat' apply And.intro
    any_goals (first | exact hG19 _ (by kernel_rfl) | refine hR19 _ _ _ ?_ | omega | (unfold maxLen; omega) | (simp [h1, h1_]; done) | (simp [h1, h1_]; omega))
    refine AW.wk [(4, AV.int .i64 0)] [] 0 (by simp [h1, h1_]) (by simp [h1, h1_]) (by simp) ?_
    simp only [Option.some.injEq] at hF
    subst hF
    refine AW.ret (hQ _ _ _ ?_ (matchO_0 ?_)).1
    · simp [Try.f93, h1, h1_]
    · simp [h1, h1_]
  · replace hF := ite_f h1 hF
    have h1_ := h1
    try simp at h1_
    refine AW.condF (by decide) (by first | (simp [h1, h1_]; done) | (simp [h1, h1_]; omega)) ?_
    refine AW.skip ?_
    refine hK17 _ _ _ ?_
    refine AW.seqR mixed [] [none, none, none, none] (by kernel_rfl) fun G20 R20 hG20 hR20 => ?_
    obtain ⟨h2, hF⟩ := chk_elim hF
    have h2_ := h2
    try simp at h2_
    try simp [h1, h1_, h2, h2_]
    repeat' apply And.intro
    any_goals (first | exact hG20 _ (by kernel_rfl) | refine hR20 _ _ _ ?_ | omega | (unfold maxLen; omega) | (simp [h1, h1_, h2, h2_]; done) | (simp [h1, h1_, h2, h2_]; omega))
    refine AW.wk [(0, AV.int .i64 (Int.tmod v0 v1)), (1, AV.int .i64 v1)] [] 0 (by simp [h1, h1_, h2, h2_]) (by simp [h1, h1_, h2, h2_]) (by simp) ?_
    refine AW.midF (α := Int) (fun v3 => made_Mod.J1 k v3 = some v2) (fun v3 => [(0, AV.int .i64 v3)]) (fun v3 => []) 0 (fun K24 hK24 => ?_) ?_
    · refine AW.seqR mixed [] [none, none] (by kernel_rfl) fun G25 R25 hG25 hR25 => ?_
      try simp [h1, h1_, h2, h2_]
      repeat' apply And.intro
      any_goals (first | exact hG25 _ (by kernel_rfl) | refine hR25 _ _ _ ?_ | omega | (unfold maxLen; omega) | (simp [h1, h1_, h2, h2_]; done) | (simp [h1, h1_, h2, h2_]; omega))
      refine AW.wk [(0, AV.int .i64 (Int.tmod v0 v1)), (1, AV.int .i64 v1), (11, AV.bool (decide (Int.tmod v0 v1 < 0)))] [] 0 (by simp [h1, h1_, h2, h2_]) (by simp [h1, h1_, h2, h2_]) (by simp) ?_
      by_cases h3 : Int.tmod v0 v1 < 0
      · replace hF := ite_t h3 hF
        have h3_ := h3
        try simp at h3_
        refine AW.condT (by decide) (by first | (simp [h1, h1_, h2, h2_, h3, h3_]; done) | (simp [h1, h1_, h2, h2_, h3, h3_]; omega)) ?_
        refine AW.region mixed [] [none, none, none, none] (by kernel_rfl) fun G26 R26 hG26 hR26 => ?_
        try simp [h1, h1_, h2, h2_, h3, h3_]
        repeat' apply And.intro
        any_goals (first | exact hG26 _ (by kernel_rfl) | refine hR26 _ _ _ ?_ | omega | (unfold maxLen; omega) | (simp [h1, h1_, h2, h2_, h3, h3_]; done) | (simp [h1, h1_, h2, h2_, h3, h3_]; omega))
        refine hK24 _ _ _ ?_
        refine Can.weak [(0, AV.int .i64 (IntKind.wrap .i64 (Int.tmod v0 v1 + v1)))] [] 0 (by simp [h1, h1_, h2, h2_, h3, h3_]) (by simp [h1, h1_, h2, h2_, h3, h3_]) (by simp) ?_
        exact Can.join (IntKind.wrap .i64 (Int.tmod v0 v1 + v1)) hF (by simp [h1, h1_, h2, h2_, h3, h3_]) (by simp [h1, h1_, h2, h2_, h3, h3_]) (by simp)
      · replace hF := ite_f h3 hF
        have h3_ := h3
        try simp at h3_
        refine AW.condF (by decide) (by first | (simp [h1, h1_, h2, h2_, h3, h3_]; done) | (simp [h1, h1_, h2, h2_, h3, h3_]; omega)) ?_
        refine AW.skip ?_
        refine hK24 _ _ _ ?_
        exact Can.join (Int.tmod v0 v1) hF (by simp [h1, h1_, h2, h2_, h3, h3_]) (by simp [h1, h1_, h2, h2_, h3, h3_]) (by simp)
    · rintro v3 hF
      try dsimp only at hF
      unfold made_Mod.J1 at hF
      refine AW.seqR mixed [] [none, none] (by kernel_rfl) fun G23 R23 hG23 hR23 => ?_
      try simp [h1, h1_, h2, h2_]
      repeat' apply And.intro
      any_goals (first | exact hG23 _ (by kernel_rfl) | refine hR23 _ _ _ ?_ | omega | (unfold maxLen; omega) | (simp [h1, h1_, h2, h2_]; done) | (simp [h1, h1_, h2, h2_]; omega))
      refine AW.wk [(4, AV.int .i64 v3)] [] 0 (by simp [h1, h1_, h2, h2_]) (by simp [h1, h1_, h2, h2_]) (by simp) ?_
      simp only [Option.some.injEq] at hF
      subst hF
      refine AW.ret (hQ _ _ _ ?_ (matchO_0 ?_)).1
      · simp [Try.f93, h1, h1_, h2, h2_]
      · simp [h1, h1_, h2, h2_]
set_option maxHeartbeats 4000000 in
theorem w_made_Dice_Next (k : Nat) (v0 : (List Int)) (v1 : Int) (v2 : Int) (v3 : Int) (v4 : Int) (hF : made_Dice_Next k v0 v1 v2 = some (v3, v4)) :
    FCall Try.prog 29 [AV.ptr 0 0, AV.int .i64 v2] [.cells [AV.lst false false (List.map (AV.int .i64) v0), AV.int .i64 v1]] (AV.int .i64 v3) [some (.cells [AV.lst false false (List.map (AV.int .i64) v0), AV.int .i64 v4])] := by
  unfold made_Dice_Next at hF
  refine FCall.enter Try.func29 rfl (by simp) (by decide) (by simp) (by simp) (by simp) (by simp) (by simp) ?_
  intro c0 w0 Q h0 hQ
  refine AW.wk [(0, AV.ptr 0 0), (1, AV.int .i64 v2)] [(0, .cells [AV.lst false false (List.map (AV.int .i64) v0), AV.int .i64 v1])] 1 (by simp) (by simp) (by simp) ?_
  refine AW.seqR mixed [] [none] (by kernel_rfl) fun G9 R9 hG9 hR9 => ?_
  try simp
  repeat' apply And.intro
  any_goals (first | exact hG9 _ (by kernel_rfl) | refine hR9 _ _ _ ?_ | omega | (unfold maxLen; omega) | (simp; done) | (simp; omega))
  refine AW.wk [(0, AV.ptr 0 0), (1, AV.int .i64 v2)] [(0, .cells [AV.lst false false (List.map (AV.int .i64) v0), AV.int .i64 v1])] 1 (by simp) (by simp) (by simp) ?_
  refine AW.seq fun K12 hK12 => ?_
  refine AW.seqR mixed [] [none, none, none, none, none, none, none, none, none, none] (by kernel_rfl) fun G13 R13 hG13 hR13 => ?_
  try simp
  repeat' apply And.intro
  any_goals (first | exact hG13 _ (by kernel_rfl) | refine hR13 _ _ _ ?_ | omega | (unfold maxLen; omega) | (simp; done) | (simp; omega))
  refine AW.wk [(0, AV.ptr 0 0), (1, AV.int .i64 v2), (14, AV.bool (decide ((v0.length : Int) ≤ v1)))] [(0, .cells [AV.lst false false (List.map (AV.int .i64) v0), AV.int .i64 v1])] 1 (by simp) (by simp) (by simp) ?_
  by_cases h1 : (v0.length : Int) ≤ v1
  · replace hF := ite_t h1 hF
    have h1_ := h1
    try simp at h1_
    refine AW.condT (by decide) (by first | (simp [h1, h1_]; done) | (simp [h1, h1_]; omega)) ?_
    refine AW.seqR mixed [] [none] (by kernel_rfl) fun G14 R14 hG14 hR14 => ?_
    try simp [h1, h1_]
    repeat' apply And.intro
    any_goals (first | exact hG14 _ (by kernel_rfl) | refine hR14 _ _ _ ?_ | omega | (unfold maxLen; omega) | (simp [h1, h1_]; done) | (simp [h1, h1_]; omega))
    refine AW.wk [(4, AV.int .i64 0)] [(0, .cells [AV.lst false false (List.map (AV.int .i64) v0), AV.int .i64 v1])] 1 (by simp [h1, h1_]) (by simp [h1, h1_]) (by simp) ?_
    simp only [Option.some.injEq, Prod.mk.injEq] at hF
    obtain ⟨e0, e1⟩ := hF
    subst e0 e1
    refine AW.ret (hQ _ _ _ ?_ (matchO_0 ?_)).1
    · simp [Try.f29, h1, h1_]
    · simp [h1, h1_]
  · replace hF := ite_f h1 hF
    have h1_ := h1
    try simp at h1_
    refine AW.condF (by decide) (by first | (simp [h1, h1_]; done) | (simp [h1, h1_]; omega)) ?_
    refine AW.skip ?_
    refine hK12 _ _ _ ?_
    refine AW.seqR mixed [] [none, none, none, none, none, none, none, none] (by kernel_rfl) fun G15 R15 hG15 hR15 => ?_
    try simp [h1, h1_]
    repeat' apply And.intro
    any_goals (first | exact hG15 _ (by kernel_rfl) | refine hR15 _ _ _ ?_ | omega | (unfold maxLen; omega) | (simp [h1, h1_]; done) | (simp [h1, h1_]; omega))
    refine AW.wk [(0, AV.ptr 0 0), (1, AV.int .i64 v2)] [(0, .cells [AV.lst false false (List.map (AV.int .i64) v0), AV.int .i64 (IntKind.wrap .i64 (v1 + 1))])] 1 (by simp [h1, h1_]) (by simp [h1, h1_]) (by simp) ?_
    refine AW.seqR mixed [] [none, none, none, none, none, none, none, none, none, none, none, none, none, none] (by kernel_rfl) fun G16 R16 hG16 hR16 => ?_
    obtain ⟨v5, h2, h3, h4, hF⟩ := idx_elim hF
    have h4_ := get_of h4
    try simp at h4_
    have h3_ := h3
    try simp at h3_
    try simp [h1, h1_, h2, h3, h4, h4_, h3_]
    repeat' apply And.intro
    try any_goals (first | omega | (unfold maxLen; omega) | (simp [h1, h1_, h2, h3, h4, h4_, h3_]; done))
    obtain ⟨v6, h5, hF⟩ := bnd1_elim hF
    refine aCall_l (w_made_Mod k _ _ _ h5) (by simp) [] [] [] rfl (.cons (.same (by simp [h1, h1_, h2, h3, h4, h4_, h3_])) (.cons (.same (by simp [h1, h1_, h2, h3, h4, h4_, h3_])) .nil)) (by simp [h1, h1_, h2, h3, h4, h4_, h3_]) (by decide) (by simp) (by simp) (.inl rfl) (by simp) (by simp) ?_
    try simp [h1, h1_, h2, h3, h4, h4_, h3_]
    repeat' apply And.intro
    any_goals (first | exact hG16 _ (by kernel_rfl) | refine hR16 _ _ _ ?_ | omega | (unfold maxLen; omega) | (simp [h1, h1_, h2, h3, h4, h4_, h3_]; done) | (simp [h1, h1_, h2, h3, h4, h4_, h3_]; omega))
    refine AW.wk [(4, AV.int .i64 v6)] [(0, .cells [AV.lst false false (List.map (AV.int .i64) v0), AV.int .i64 (IntKind.wrap .i64 (v1 + 1))])] 1 (by simp [h1, h1_, h2, h3, h4, h4_, h3_]) (by simp [h1, h1_, h2, h3, h4, h4_, h3_]) (by simp) ?_
    simp only [Option.some.injEq, Prod.mk.injEq] at hF
    obtain ⟨e0, e1⟩ := hF
    subst e0 e1
    refine AW.ret (hQ _ _ _ ?_ (matchO_0 ?_)).1
    · simp [Try.f29, h1, h1_, h2, h3, h4, h4_, h3_]
    · simp [h1, h1_, h2, h3, h4, h4_, h3_]
set_option maxHeartbeats 4000000 in
theorem w_made_Dice_Of (k : Nat) (v0 : (List Int)) (v1 : Int) (v2 : (List Int)) (v3 : Int) (v4 : Int) (hF : made_Dice_Of k v0 v1 v2 = some (v3, v4)) :
    FCall Try.prog 32 [AV.ptr 0 0, AV.lst false false (List.map (AV.int .i64) v2)] [.cells [AV.lst false false (List.map (AV.int .i64) v0), AV.int .i64 v1]] (AV.int .i64 v3) [some (.cells [AV.lst false false (List.map (AV.int .i64) v0), AV.int .i64 v4])] := by
  unfold made_Dice_Of at hF
  refine FCall.enter Try.func32 rfl (by simp) (by decide) (by simp) (by simp) (by simp) (by simp) (by simp) ?_
  intro c0 w0 Q h0 hQ
  refine AW.wk [(0, AV.ptr 0 0), (1, AV.lst false false (List.map (AV.int .i64) v2))] [(0, .cells [AV.lst false false (List.map (AV.int .i64) v0), AV.int .i64 v1])] 1 (by simp) (by simp) (by simp) ?_
  refine AW.seqR mixed [] [none] (by kernel_rfl) fun G3 R3 hG3 hR3 => ?_
  try simp
  repeat' apply And.intro
  any_goals (first | exact hG3 _ (by kernel_rfl) | refine hR3 _ _ _ ?_ | omega | (unfold maxLen; omega) | (simp; done) | (simp; omega))
  refine AW.wk [(0, AV.ptr 0 0), (1, AV.lst false false (List.map (AV.int .i64) v2))] [(0, .cells [AV.lst false false (List.map (AV.int .i64) v0), AV.int .i64 v1])] 1 (by simp) (by simp) (by simp) ?_
  refine AW.seqR mixed [] [none, none, none, none, none, none, none, none] (by kernel_rfl) fun G4 R4 hG4 hR4 => ?_
  try simp
  repeat' apply And.intro
  try any_goals (first | omega | (unfold maxLen; omega) | (simp; done))
  obtain ⟨v5, v6, h1, hF⟩ := bnd2_elim hF
  refine aCall_l (w_made_Dice_Next k _ _ _ _ _ h1) (by simp) [0] [] [0] rfl (.cons (.same (by simp)) (.cons (.same (by simp)) .nil)) (by simp) (by decide) (by simp) (by simp) (.inl rfl) (by simp) (by simp) ?_
  obtain ⟨v7, h2, h3, h4, hF⟩ := idx_elim hF
  have h4_ := get_of h4
  try simp at h4_
  have h3_ := h3
  try simp at h3_
  try simp [h2, h3, h4, h4_, h3_]
  repeat' apply And.intro
  any_goals (first | exact hG4 _ (by kernel_rfl) | refine hR4 _ _ _ ?_ | omega | (unfold maxLen; omega) | (simp [h2, h3, h4, h4_, h3_]; done) | (simp [h2, h3, h4, h4_, h3_]; omega))
  refine AW.wk [(4, AV.int .i64 v7)] [(0, .cells [AV.lst false false (List.map (AV.int .i64) v0), AV.int .i64 v6])] 1 (by simp [h2, h3, h4, h4_, h3_]) (by simp [h2, h3, h4, h4_, h3_]) (by simp) ?_
  simp only [Option.some.injEq, Prod.mk.injEq] at hF
  obtain ⟨e0, e1⟩ := hF
  subst e0 e1
  refine AW.ret (hQ _ _ _ ?_ (matchO_0 ?_)).1
  · simp [Try.f32, h2, h3, h4, h4_, h3_]
  · simp [h2, h3, h4, h4_, h3_]
set_option maxHeartbeats 4000000 in
theorem w_made_Dice_One (k : Nat) (v0 : (List Int)) (v1 : Int) (v2 : Int) (v3 : Bool) (v4 : Int) (hF : made_Dice_One k v0 v1 v2 = some (v3, v4)) :
    FCall Try.prog 67 [AV.ptr 0 0, AV.int .i64 v2] [.cells [AV.lst false false (List.map (AV.int .i64) v0), AV.int .i64 v1]] (AV.bool v3) [some (.cells [AV.lst false false (List.map (AV.int .i64) v0), AV.int .i64 v4])] := by
  unfold made_Dice_One at hF
  refine FCall.enter Try.func67 rfl (by simp) (by decide) (by simp) (by simp) (by simp) (by simp) (by simp) ?_
  intro c0 w0 Q h0 hQ
  refine AW.wk [(0, AV.ptr 0 0), (1, AV.int .i64 v2)] [(0, .cells [AV.lst false false (List.map (AV.int .i64) v0), AV.int .i64 v1])] 1 (by simp) (by simp) (by simp) ?_
  refine AW.seqR mixed [] [none] (by kernel_rfl) fun G3 R3 hG3 hR3 => ?_
  try simp
  repeat' apply And.intro
  any_goals (first | exact hG3 _ (by kernel_rfl) | refine hR3 _ _ _ ?_ | omega | (unfold maxLen; omega) | (simp; done) | (simp; omega))
  refine AW.wk [(0, AV.ptr 0 0), (1, AV.int .i64 v2)] [(0, .cells [AV.lst false false (List.map (AV.int .i64) v0), AV.int .i64 v1])] 1 (by simp) (by simp) (by simp) ?_
  refine AW.seqR mixed [] [none, none, none, none, none, none, none] (by kernel_rfl) fun G4 R4 hG4 hR4 => ?_
  try simp
  repeat' apply And.intro
  try any_goals (first | omega | (unfold maxLen; omega) | (simp; done))
  obtain ⟨v5, v6, h1, hF⟩ := bnd2_elim hF
  refine aCall_l (w_made_Dice_Next k _ _ _ _ _ h1) (by simp) [0] [] [0] rfl (.cons (.same (by simp)) (.cons (.same (by simp)) .nil)) (by simp) (by decide) (by simp) (by simp) (.inl rfl) (by simp) (by simp) ?_
  try simp
  repeat' apply And.intro
  any_goals (first | exact hG4 _ (by kernel_rfl) | refine hR4 _ _ _ ?_ | omega | (unfold maxLen; omega) | (simp; done) | (simp; omega))
  refine AW.wk [(4, AV.bool (v5 == (IntKind.wrap .i64 (v2 - 1))))] [(0, .cells [AV.lst false false (List.map (AV.int .i64) v0), AV.int .i64 v6])] 1 (by simp) (by simp) (by simp) ?_
  simp only [Option.some.injEq, Prod.mk.injEq] at hF
  obtain ⟨e0, e1⟩ := hF
  subst e0 e1
  refine AW.ret (hQ _ _ _ ?_ (matchO_0 ?_)).1
  · simp [Try.f67]
  · simp
set_option maxHeartbeats 4000000 in
theorem w_mill_Rules (k : Nat) (v0 : (List Int)) (v1 : Int) (v2 : (List Int)) (v3 : (List Int)) (v4 : (List Int)) (v5 : Int) (v6 : Int) (v7 : Int) (v8 : Int) (v9 : Int) (hF : mill_Rules k v0 v1 = some (v2, v3, v4, v5, v6, v7, v8, v9)) :
    FCall Try.prog 50 [AV.ptr 0 0] [.cells [AV.lst false false (List.map (AV.int .i64) v0), AV.int .i64 v1]] (AV.agg [AV.lst false false (List.map (AV.int .i64) v2), AV.lst false false (List.map (AV.int .i64) v3), AV.slc 1 0 1 v4.length false, AV.int .i64 v5, AV.int .i64 v6, AV.int .i64 v7, AV.int .i64 v8]) [some (.cells [AV.lst false false (List.map (AV.int .i64) v0), AV.int .i64 v9]), some (.cells (List.map (AV.int .i64) v4))] := by
  unfold mill_Rules at hF
  refine FCall.enter Try.func50 rfl (by simp) (by decide) (by simp) (by simp) (by simp) (by simp) (by simp) ?_
  intro c0 w0 Q h0 hQ
  refine AW.wk [(0, AV.ptr 0 0)] [(0, .cells [AV.lst false false (List.map (AV.int .i64) v0), AV.int .i64 v1])] 1 (by simp) (by simp) (by simp) ?_
  refine AW.seqR mixed [] [none] (by kernel_rfl) fun G12 R12 hG12 hR12 => ?_
  try simp
  repeat' apply And.intro
  any_goals (first | exact hG12 _ (by kernel_rfl) | refine hR12 _ _ _ ?_ | omega | (unfold maxLen; omega) | (simp; done) | (simp; omega))
  refine AW.wk [(0, AV.ptr 0 0), (2, AV.ptr 1 0)] [(0, .cells [AV.lst false false (List.map (AV.int .i64) v0), AV.int .i64 v1]), (1, .cells [AV.lst true true (List.map (AV.int .i64) ([] : List Int)), AV.lst true true (List.map (AV.int .i64) ([] : List Int)), AV.lst true true (List.map (AV.int .i64) ([] : List Int)), AV.int .i64 0, AV.int .i64 0, AV.int .i64 0, AV.int .i64 0])] 2 (by simp) (by simp) (by simp) ?_
  refine AW.seqR mixed [] [none, none, none, none, none, none, none, none, none, none, none, none] (by kernel_rfl) fun G13 R13 hG13 hR13 => ?_
  try simp
  repeat' apply And.intro
  try any_goals (first | omega | (unfold maxLen; omega) | (simp; done))
  obtain ⟨v10, v11, h1, hF⟩ := bnd2_elim hF
  refine aCall_l (w_made_Dice_Of k _ _ _ _ _ h1) (by simp) [0] [] [0] rfl (.cons (.same (by simp)) (.cons (Coe.fl (by simp)) .nil)) (by simp) (by decide) (by simp) (by simp) (.inl rfl) (by simp) (by simp) ?_
  try simp
  repeat' apply And.intro
  try any_goals (first | omega | (unfold maxLen; omega) | (simp; done))
  obtain ⟨v12, v13, h2, hF⟩ := bnd2_elim hF
  refine aCall_l (w_made_Dice_Of k _ _ _ _ _ h2) (by simp) [0] [] [0] rfl (.cons (.same (by simp)) (.cons (Coe.fl (by simp)) .nil)) (by simp) (by decide) (by simp) (by simp) (.inl rfl) (by simp) (by simp) ?_
  try simp
  repeat' apply And.intro
  try any_goals (first | omega | (unfold maxLen; omega) | (simp; done))
  obtain ⟨v14, v15, h3, hF⟩ := bnd2_elim hF
  refine aCall_l (w_made_Dice_Of k _ _ _ _ _ h3) (by simp) [0] [] [0] rfl (.cons (.same (by simp)) (.cons (Coe.fl (by simp)) .nil)) (by simp) (by decide) (by simp) (by simp) (.inl rfl) (by simp) (by simp) ?_
  try simp
  repeat' apply And.intro
  any_goals (first | exact hG13 _ (by kernel_rfl) | refine hR13 _ _ _ ?_ | omega | (unfold maxLen; omega) | (simp; done) | (simp; omega))
  refine AW.wk [(0, AV.ptr 0 0), (2, AV.ptr 1 0), (3, AV.ptr 2 0)] [(0, .cells [AV.lst false false (List.map (AV.int .i64) v0), AV.int .i64 v15]), (1, .cells [AV.lst true true (List.map (AV.int .i64) ([] : List Int)), AV.lst true true (List.map (AV.int .i64) ([] : List Int)), AV.lst true true (List.map (AV.int .i64) ([] : List Int)), AV.int .i64 0, AV.int .i64 0, AV.int .i64 0, AV.int .i64 0]), (2, .cells [AV.lst true true (List.map (AV.int .i64) ([] : List Int)), AV.lst true true (List.map (AV.int .i64) ([] : List Int)), AV.lst true true (List.map (AV.int .i64) ([] : List Int)), AV.int .i64 0, AV.int .i64 v10, AV.int .i64 v12, AV.int .i64 v14])] 3 (by simp) (by simp) (by simp) ?_
  refine AW.seqR mixed [] [none, none, none, none, none, none, none] (by kernel_rfl) fun G14 R14 hG14 hR14 => ?_
  try simp
  repeat' apply And.intro
  try any_goals (first | omega | (unfold maxLen; omega) | (simp; done))
  obtain ⟨v16, v17, h4, hF⟩ := bnd2_elim hF
  refine aCall_l (w_made_Dice_Next k _ _ _ _ _ h4) (by simp) [0] [] [0] rfl (.cons (.same (by simp)) (.cons (.same (by simp)) .nil)) (by simp) (by decide) (by simp) (by simp) (.inl rfl) (by simp) (by simp) ?_
  obtain ⟨⟨h5, h6⟩, hF⟩ := chk_elim hF
  have h5_ := h5
  try simp at h5_
  have h6_ := h6
  try simp at h6_
  try simp [h5, h6, h5_, h6_]
  repeat' apply And.intro
  any_goals (first | exact hG14 _ (by kernel_rfl) | refine hR14 _ _ _ ?_ | omega | (unfold maxLen; omega) | (simp [h5, h6, h5_, h6_]; done) | (simp [h5, h6, h5_, h6_]; omega))
  refine AW.wk [(0, AV.ptr 0 0), (2, AV.ptr 1 0), (3, AV.ptr 2 0)] [(0, .cells [AV.lst false false (List.map (AV.int .i64) v0), AV.int .i64 v17]), (1, .cells [AV.lst true true (List.map (AV.int .i64) ([] : List Int)), AV.lst true true (List.map (AV.int .i64) ([] : List Int)), AV.lst true true (List.map (AV.int .i64) ([] : List Int)), AV.int .i64 0, AV.int .i64 0, AV.int .i64 0, AV.int .i64 0]), (2, .cells [AV.lst false false (List.map (AV.int .i64) (([0, 1, 2, 3, 4, 5, 6] : List Int).take (IntKind.wrap .i64 (2 + v16)).toNat)), AV.lst true true (List.map (AV.int .i64) ([] : List Int)), AV.lst true true (List.map (AV.int .i64) ([] : List Int)), AV.int .i64 0, AV.int .i64 v10, AV.int .i64 v12, AV.int .i64 v14])] 3 (by simp [h5, h6, h5_, h6_]) (by simp [h5, h6, h5_, h6_]) (by simp) ?_
  refine AW.seqR mixed [29] [none, none, none, none, none, none, none, none, none, none, none, none, none, none, none, none] (by kernel_rfl) fun G15 R15 hG15 hR15 => ?_
  try simp [h5, h6, h5_, h6_]
  repeat' apply And.intro
  try any_goals (first | omega | (unfold maxLen; omega) | (simp [h5, h6, h5_, h6_]; done))
  obtain ⟨v18, v19, h7, hF⟩ := bnd2_elim hF
  refine aCall_l (w_made_Dice_Of k _ _ _ _ _ h7) (by simp) [0] [] [0] rfl (.cons (.same (by simp [h5, h6, h5_, h6_])) (.cons (Coe.fl (by simp [h5, h6, h5_, h6_])) .nil)) (by simp [h5, h6, h5_, h6_]) (by decide) (by simp) (by simp) (.inl rfl) (by simp) (by simp) ?_
  try simp [h5, h6, h5_, h6_]
  repeat' apply And.intro
  try any_goals (first | omega | (unfold maxLen; omega) | (simp [h5, h6, h5_, h6_]; done))
  obtain ⟨v20, v21, h8, hF⟩ := bnd2_elim hF
  refine aCall_l (w_made_Dice_Of k _ _ _ _ _ h8) (by simp) [0] [] [0] rfl (.cons (.same (by simp [h5, h6, h5_, h6_])) (.cons (Coe.fl (by simp [h5, h6, h5_, h6_])) .nil)) (by simp [h5, h6, h5_, h6_]) (by decide) (by simp) (by simp) (.inl rfl) (by simp) (by simp) ?_
  try simp [h5, h6, h5_, h6_]
  repeat' apply And.intro
  try any_goals (first | omega | (unfold maxLen; omega) | (simp [h5, h6, h5_, h6_]; done))
  obtain ⟨v22, v23, h9, hF⟩ := bnd2_elim hF
  refine aCall_l (w_made_Dice_Of k _ _ _ _ _ h9) (by simp) [0] [] [0] rfl (.cons (.same (by simp [h5, h6, h5_, h6_])) (.cons (Coe.fl (by simp [h5, h6, h5_, h6_])) .nil)) (by simp [h5, h6, h5_, h6_]) (by decide) (by simp) (by simp) (.inl rfl) (by simp) (by simp) ?_
  try simp [h5, h6, h5_, h6_]
  repeat' apply And.intro
  any_goals (first | exact hG15 _ (by kernel_rfl) | refine hR15 _ _ _ ?_ | omega | (unfold maxLen; omega) | (simp [h5, h6, h5_, h6_]; done) | (simp [h5, h6, h5_, h6_]; omega))
  refine AW.wk [(0, AV.ptr 0 0), (2, AV.ptr 1 0), (3, AV.ptr 2 0)] [(0, .cells [AV.lst false false (List.map (AV.int .i64) v0), AV.int .i64 v23]), (1, .cells [AV.lst true true (List.map (AV.int .i64) ([] : List Int)), AV.lst true true (List.map (AV.int .i64) ([] : List Int)), AV.lst true true (List.map (AV.int .i64) ([] : List Int)), AV.int .i64 0, AV.int .i64 0, AV.int .i64 0, AV.int .i64 0]), (2, .cells [AV.lst false false (List.map (AV.int .i64) (([0, 1, 2, 3, 4, 5, 6] : List Int).take (IntKind.wrap .i64 (2 + v16)).toNat)), AV.lst false true (List.map (AV.int .i64) ([0] : List Int)), AV.slc 3 0 1 (([IntKind.wrap .i64 (1 + v18), IntKind.wrap .i64 (1 + v20)] : List Int).length) true, AV.int .i64 v22, AV.int .i64 v10, AV.int .i64 v12, AV.int .i64 v14]), (3, .cells (List.map (AV.int .i64) ([IntKind.wrap .i64 (1 + v18), IntKind.wrap .i64 (1 + v20)] : List Int)))] 4 (by simp [h5, h6, h5_, h6_]) (by simp [h5, h6, h5_, h6_]) (by simp) ?_
  refine AW.midF (α := ((List Int) × Int)) (fun (v24, v25) => mill_Rules.J1 k v10 v12 v14 v16 v18 v20 v22 v24 v25 = some (v2, v3, v4, v5, v6, v7, v8, v9)) (fun (v24, v25) => [(2, AV.ptr 1 0), (3, AV.ptr 2 0)]) (fun (v24, v25) => [(0, .cells [AV.lst false false (List.map (AV.int .i64) v0), AV.int .i64 v25]), (1, .cells [AV.lst true true (List.map (AV.int .i64) ([] : List Int)), AV.lst true true (List.map (AV.int .i64) ([] : List Int)), AV.lst true true (List.map (AV.int .i64) ([] : List Int)), AV.int .i64 0, AV.int .i64 0, AV.int .i64 0, AV.int .i64 0]), (2, .cells [AV.lst false false (List.map (AV.int .i64) (([0, 1, 2, 3, 4, 5, 6] : List Int).take (IntKind.wrap .i64 (2 + v16)).toNat)), AV.lst false false (List.map (AV.int .i64) v24), AV.slc 3 0 1 (([IntKind.wrap .i64 (1 + v18), IntKind.wrap .i64 (1 + v20)] : List Int).length) true, AV.int .i64 v22, AV.int .i64 v10, AV.int .i64 v12, AV.int .i64 v14]), (3, .cells (List.map (AV.int .i64) ([IntKind.wrap .i64 (1 + v18), IntKind.wrap .i64 (1 + v20)] : List Int)))]) 4 (fun K20 hK20 => ?_) ?_
  · refine AW.seqR mixed [] [none, none] (by kernel_rfl) fun G21 R21 hG21 hR21 => ?_
    try simp [h5, h6, h5_, h6_]
    repeat' apply And.intro
    try any_goals (first | omega | (unfold maxLen; omega) | (simp [h5, h6, h5_, h6_]; done))
    obtain ⟨v29, v30, h23, hF⟩ := bnd2_elim hF
    refine aCall_l (w_made_Dice_One k _ _ _ _ _ h23) (by simp) [0] [] [0] rfl (.cons (.same (by simp [h5, h6, h5_, h6_])) (.cons (.same (by simp [h5, h6, h5_, h6_])) .nil)) (by simp [h5, h6, h5_, h6_]) (by decide) (by simp) (by simp) (.inl rfl) (by simp) (by simp) ?_
    try simp [h5, h6, h5_, h6_]
    repeat' apply And.intro
    any_goals (first | exact hG21 _ (by kernel_rfl) | refine hR21 _ _ _ ?_ | omega | (unfold maxLen; omega) | (simp [h5, h6, h5_, h6_]; done) | (simp [h5, h6, h5_, h6_]; omega))
    refine AW.wk [(2, AV.ptr 1 0), (3, AV.ptr 2 0), (36, AV.bool v29)] [(0, .cells [AV.lst false false (List.map (AV.int .i64) v0), AV.int .i64 v30]), (1, .cells [AV.lst true true (List.map (AV.int .i64) ([] : List Int)), AV.lst true true (List.map (AV.int .i64) ([] : List Int)), AV.lst true true (List.map (AV.int .i64) ([] : List Int)), AV.int .i64 0, AV.int .i64 0, AV.int .i64 0, AV.int .i64 0]), (2, .cells [AV.lst false false (List.map (AV.int .i64) (([0, 1, 2, 3, 4, 5, 6] : List Int).take (IntKind.wrap .i64 (2 + v16)).toNat)), AV.lst false true (List.map (AV.int .i64) ([0] : List Int)), AV.slc 3 0 1 (([IntKind.wrap .i64 (1 + v18), IntKind.wrap .i64 (1 + v20)] : List Int).length) true, AV.int .i64 v22, AV.int .i64 v10, AV.int .i64 v12, AV.int .i64 v14]), (3, .cells (List.map (AV.int .i64) ([IntKind.wrap .i64 (1 + v18), IntKind.wrap .i64 (1 + v20)] : List Int)))] 4 (by simp [h5, h6, h5_, h6_]) (by simp [h5, h6, h5_, h6_]) (by simp) ?_
    by_cases h24 : v29 = true
    · replace hF := ite_t h24 hF
      have h24_ := h24
      try simp at h24_
      refine AW.condT (by decide) (by first | (simp [h5, h6, h5_, h6_, h24, h24_]; done) | (simp [h5, h6, h5_, h6_, h24, h24_]; omega)) ?_
      refine AW.region mixed [] [none, none, none, none] (by kernel_rfl) fun G22 R22 hG22 hR22 => ?_
      try simp [h5, h6, h5_, h6_, h24, h24_]
      repeat' apply And.intro
      any_goals (first | exact hG22 _ (by kernel_rfl) | refine hR22 _ _ _ ?_ | omega | (unfold maxLen; omega) | (simp [h5, h6, h5_, h6_, h24, h24_]; done) | (simp [h5, h6, h5_, h6_, h24, h24_]; omega))
      refine hK20 _ _ _ ?_
      refine Can.weak [(2, AV.ptr 1 0), (3, AV.ptr 2 0)] [(0, .cells [AV.lst false false (List.map (AV.int .i64) v0), AV.int .i64 v30]), (1, .cells [AV.lst true true (List.map (AV.int .i64) ([] : List Int)), AV.lst true true (List.map (AV.int .i64) ([] : List Int)), AV.lst true true (List.map (AV.int .i64) ([] : List Int)), AV.int .i64 0, AV.int .i64 0, AV.int .i64 0, AV.int .i64 0]), (2, .cells [AV.lst false false (List.map (AV.int .i64) (([0, 1, 2, 3, 4, 5, 6] : List Int).take (IntKind.wrap .i64 (2 + v16)).toNat)), AV.lst false true (List.map (AV.int .i64) ([0, 1] : List Int)), AV.slc 3 0 1 (([IntKind.wrap .i64 (1 + v18), IntKind.wrap .i64 (1 + v20)] : List Int).length) true, AV.int .i64 v22, AV.int .i64 v10, AV.int .i64 v12, AV.int .i64 v14]), (3, .cells (List.map (AV.int .i64) ([IntKind.wrap .i64 (1 + v18), IntKind.wrap .i64 (1 + v20)] : List Int)))] 4 (by simp [h5, h6, h5_, h6_, h24, h24_]) (by simp [h5, h6, h5_, h6_, h24, h24_]) (by simp) ?_
      refine Can.flg [] [(2, .cells [AV.lst false false (List.map (AV.int .i64) (([0, 1, 2, 3, 4, 5, 6] : List Int).take (IntKind.wrap .i64 (2 + v16)).toNat)), AV.lst false false (List.map (AV.int .i64) ([0, 1] : List Int)), AV.slc 3 0 1 (([IntKind.wrap .i64 (1 + v18), IntKind.wrap .i64 (1 + v20)] : List Int).length) true, AV.int .i64 v22, AV.int .i64 v10, AV.int .i64 v12, AV.int .i64 v14])] trivial ⟨⟨AObj.cells [AV.lst false false (List.map (AV.int .i64) (([0, 1, 2, 3, 4, 5, 6] : List Int).take (IntKind.wrap .i64 (2 + v16)).toNat)), AV.lst false true (List.map (AV.int .i64) ([0, 1] : List Int)), AV.slc 3 0 1 (([IntKind.wrap .i64 (1 + v18), IntKind.wrap .i64 (1 + v20)] : List Int).length) true, AV.int .i64 v22, AV.int .i64 v10, AV.int .i64 v12, AV.int .i64 v14], by simp [h5, h6, h5_, h6_, h24, h24_], (.mk (.cons (.same _) (.cons (.lst (by simp)) (.cons (.same _) (.cons (.same _) (.cons (.same _) (.cons (.same _) (.cons (.same _) .nil))))))))⟩, trivial⟩ (by simp) ?_
      exact Can.join ((([0, 1] : List Int), v30)) hF (by simp [h5, h6, h5_, h6_, h24, h24_]) (by simp [h5, h6, h5_, h6_, h24, h24_]) (by simp)
    · replace hF := ite_f h24 hF
      have h24_ := h24
      try simp at h24_
      refine AW.condF (by decide) (by first | (simp [h5, h6, h5_, h6_, h24, h24_]; done) | (simp [h5, h6, h5_, h6_, h24, h24_]; omega)) ?_
      refine AW.skip ?_
      refine hK20 _ _ _ ?_
      refine Can.flg [] [(2, .cells [AV.lst false false (List.map (AV.int .i64) (([0, 1, 2, 3, 4, 5, 6] : List Int).take (IntKind.wrap .i64 (2 + v16)).toNat)), AV.lst false false (List.map (AV.int .i64) ([0] : List Int)), AV.slc 3 0 1 (([IntKind.wrap .i64 (1 + v18), IntKind.wrap .i64 (1 + v20)] : List Int).length) true, AV.int .i64 v22, AV.int .i64 v10, AV.int .i64 v12, AV.int .i64 v14])] trivial ⟨⟨AObj.cells [AV.lst false false (List.map (AV.int .i64) (([0, 1, 2, 3, 4, 5, 6] : List Int).take (IntKind.wrap .i64 (2 + v16)).toNat)), AV.lst false true (List.map (AV.int .i64) ([0] : List Int)), AV.slc 3 0 1 (([IntKind.wrap .i64 (1 + v18), IntKind.wrap .i64 (1 + v20)] : List Int).length) true, AV.int .i64 v22, AV.int .i64 v10, AV.int .i64 v12, AV.int .i64 v14], by simp [h5, h6, h5_, h6_, h24, h24_], (.mk (.cons (.same _) (.cons (.lst (by simp)) (.cons (.same _) (.cons (.same _) (.cons (.same _) (.cons (.same _) (.cons (.same _) .nil))))))))⟩, trivial⟩ (by simp) ?_
      exact Can.join ((([0] : List Int), v30)) hF (by simp [h5, h6, h5_, h6_, h24, h24_]) (by simp [h5, h6, h5_, h6_, h24, h24_]) (by simp)
  · rintro ⟨v24, v25⟩ hF
    try dsimp only at hF
    unfold mill_Rules.J1 at hF
    refine AW.seqR mixed [] [none, none, none, none, none, none, none, none, none, none, none, none, none, none, none, none] (by kernel_rfl) fun G18 R18 hG18 hR18 => ?_
    obtain ⟨⟨h10, h11⟩, hF⟩ := chk_elim hF
    have h11_ := ne_of_lt h11
    obtain ⟨v26, h12, h13, h14, hF⟩ := idx_elim hF
    have h14_ := get_of h14
    try simp at h14_
    have h13_ := h13
    try simp at h13_
    have h14z := head_of h14
    have h14__ := get_of (map_get ((AV.int .i64)) h14)
    try simp at h14__
    obtain ⟨⟨h15, h16⟩, hF⟩ := chk_elim hF
    have h16_ := ne_of_lt h16
    obtain ⟨v27, h17, h18, h19, hF⟩ := idx_elim hF
    have h19_ := get_of h19
    try simp at h19_
    have h18_ := h18
    try simp at h18_
    have h19__ := get_of (map_get ((AV.int .i64)) h19)
    try simp at h19__
    obtain ⟨v28, h20, hF⟩ := let1_elim hF
    have h20_ := h20
    try simp at h20_
    obtain ⟨⟨h21, h22⟩, hF⟩ := chk_elim hF
    have h22_ := ne_of_lt h22
    try simp [h5, h6, h5_, h6_, h10, h11, h11_, h12, h13, h14, h14_, h13_, h14z, h14__, h15, h16, h16_, h17, h18, h19, h19_, h18_, h19__, h20, h20_, h21, h22, h22_]
    repeat' apply And.intro
    any_goals (first | exact hG18 _ (by kernel_rfl) | refine hR18 _ _ _ ?_ | omega | (unfold maxLen; omega) | (simp [h5, h6, h5_, h6_, h10, h11, h11_, h12, h13, h14, h14_, h13_, h14z, h14__, h15, h16, h16_, h17, h18, h19, h19_, h18_, h19__, h20, h20_, h21, h22, h22_]; done) | (simp [h5, h6, h5_, h6_, h10, h11, h11_, h12, h13, h14, h14_, h13_, h14z, h14__, h15, h16, h16_, h17, h18, h19, h19_, h18_, h19__, h20, h20_, h21, h22, h22_]; omega))
    refine AW.wk [(2, AV.ptr 1 0), (3, AV.ptr 2 0)] [(0, .cells [AV.lst false false (List.map (AV.int .i64) v0), AV.int .i64 v25]), (1, .cells [AV.lst true true (List.map (AV.int .i64) ([] : List Int)), AV.lst true true (List.map (AV.int .i64) ([] : List Int)), AV.lst true true (List.map (AV.int .i64) ([] : List Int)), AV.int .i64 0, AV.int .i64 0, AV.int .i64 0, AV.int .i64 0]), (2, .cells [AV.lst false false (List.map (AV.int .i64) (([0, 1, 2, 3, 4, 5, 6] : List Int).take (IntKind.wrap .i64 (2 + v16)).toNat)), AV.lst false false (List.map (AV.int .i64) v24), AV.slc 3 0 1 ((([IntKind.wrap .i64 (1 + v18), IntKind.wrap .i64 (1 + v20)] : List Int).set (1 : Int).toNat v28).length) true, AV.int .i64 v22, AV.int .i64 v10, AV.int .i64 v12, AV.int .i64 v14]), (3, .cells (List.map (AV.int .i64) (([IntKind.wrap .i64 (1 + v18), IntKind.wrap .i64 (1 + v20)] : List Int).set (1 : Int).toNat v28)))] 4 (by simp [h5, h6, h5_, h6_, h10, h11, h11_, h12, h13, h14, h14_, h13_, h14z, h14__, h15, h16, h16_, h17, h18, h19, h19_, h18_, h19__, h20, h20_, h21, h22, h22_]) (by simp [h5, h6, h5_, h6_, h10, h11, h11_, h12, h13, h14, h14_, h13_, h14z, h14__, h15, h16, h16_, h17, h18, h19, h19_, h18_, h19__, h20, h20_, h21, h22, h22_]) (by simp) ?_
    refine AW.seqR mixed [] [none, none] (by kernel_rfl) fun G19 R19 hG19 hR19 => ?_
    try simp [h5, h6, h5_, h6_, h10, h11, h11_, h12, h13, h14, h14_, h13_, h14z, h14__, h15, h16, h16_, h17, h18, h19, h19_, h18_, h19__, h20, h20_, h21, h22, h22_]
    repeat' apply And.intro
    any_goals (first | exact hG19 _ (by kernel_rfl) | refine hR19 _ _ _ ?_ | omega | (unfold maxLen; omega) | (simp [h5, h6, h5_, h6_, h10, h11, h11_, h12, h13, h14, h14_, h13_, h14z, h14__, h15, h16, h16_, h17, h18, h19, h19_, h18_, h19__, h20, h20_, h21, h22, h22_]; done) | (simp [h5, h6, h5_, h6_, h10, h11, h11_, h12, h13, h14, h14_, h13_, h14z, h14__, h15, h16, h16_, h17, h18, h19, h19_, h18_, h19__, h20, h20_, h21, h22, h22_]; omega))
    refine AW.wk [(2, AV.ptr 1 0)] [(0, .cells [AV.lst false false (List.map (AV.int .i64) v0), AV.int .i64 v25]), (1, .cells [AV.lst false false (List.map (AV.int .i64) (([0, 1, 2, 3, 4, 5, 6] : List Int).take (IntKind.wrap .i64 (2 + v16)).toNat)), AV.lst false false (List.map (AV.int .i64) v24), AV.slc 3 0 1 ((([IntKind.wrap .i64 (1 + v18), IntKind.wrap .i64 (1 + v20)] : List Int).set (1 : Int).toNat v28).length) true, AV.int .i64 v22, AV.int .i64 v10, AV.int .i64 v12, AV.int .i64 v14]), (3, .cells (List.map (AV.int .i64) (([IntKind.wrap .i64 (1 + v18), IntKind.wrap .i64 (1 + v20)] : List Int).set (1 : Int).toNat v28)))] 4 (by simp [h5, h6, h5_, h6_, h10, h11, h11_, h12, h13, h14, h14_, h13_, h14z, h14__, h15, h16, h16_, h17, h18, h19, h19_, h18_, h19__, h20, h20_, h21, h22, h22_]) (by simp [h5, h6, h5_, h6_, h10, h11, h11_, h12, h13, h14, h14_, h13_, h14z, h14__, h15, h16, h16_, h17, h18, h19, h19_, h18_, h19__, h20, h20_, h21, h22, h22_]) (by simp) ?_
    refine AW.rnm (m := 1) h0 [(0, 0), (1, 3), (2, 1)] [(2, AV.ptr 2 0)] [(0, .cells [AV.lst false false (List.map (AV.int .i64) v0), AV.int .i64 v25]), (1, .cells (List.map (AV.int .i64) (([IntKind.wrap .i64 (1 + v18), IntKind.wrap .i64 (1 + v20)] : List Int).set (1 : Int).toNat v28))), (2, .cells [AV.lst false false (List.map (AV.int .i64) (([0, 1, 2, 3, 4, 5, 6] : List Int).take (IntKind.wrap .i64 (2 + v16)).toNat)), AV.lst false false (List.map (AV.int .i64) v24), AV.slc 1 0 1 ((([IntKind.wrap .i64 (1 + v18), IntKind.wrap .i64 (1 + v20)] : List Int).set (1 : Int).toNat v28).length) true, AV.int .i64 v22, AV.int .i64 v10, AV.int .i64 v12, AV.int .i64 v14])] 3 (by decide) (by decide) (by decide) rfl (by simp [h5, h6, h5_, h6_, h10, h11, h11_, h12, h13, h14, h14_, h13_, h14z, h14__, h15, h16, h16_, h17, h18, h19, h19_, h18_, h19__, h20, h20_, h21, h22, h22_]) (by simp [h5, h6, h5_, h6_, h10, h11, h11_, h12, h13, h14, h14_, h13_, h14z, h14__, h15, h16, h16_, h17, h18, h19, h19_, h18_, h19__, h20, h20_, h21, h22, h22_]) ?_
    refine AW.flg [] [(2, .cells [AV.lst false false (List.map (AV.int .i64) (([0, 1, 2, 3, 4, 5, 6] : List Int).take (IntKind.wrap .i64 (2 + v16)).toNat)), AV.lst false false (List.map (AV.int .i64) v24), AV.slc 1 0 1 ((([IntKind.wrap .i64 (1 + v18), IntKind.wrap .i64 (1 + v20)] : List Int).set (1 : Int).toNat v28).length) false, AV.int .i64 v22, AV.int .i64 v10, AV.int .i64 v12, AV.int .i64 v14])] trivial ⟨⟨AObj.cells [AV.lst false false (List.map (AV.int .i64) (([0, 1, 2, 3, 4, 5, 6] : List Int).take (IntKind.wrap .i64 (2 + v16)).toNat)), AV.lst false false (List.map (AV.int .i64) v24), AV.slc 1 0 1 ((([IntKind.wrap .i64 (1 + v18), IntKind.wrap .i64 (1 + v20)] : List Int).set (1 : Int).toNat v28).length) true, AV.int .i64 v22, AV.int .i64 v10, AV.int .i64 v12, AV.int .i64 v14], by simp [h5, h6, h5_, h6_, h10, h11, h11_, h12, h13, h14, h14_, h13_, h14z, h14__, h15, h16, h16_, h17, h18, h19, h19_, h18_, h19__, h20, h20_, h21, h22, h22_], (.mk (.cons (.same _) (.cons (.same _) (.cons .slc (.cons (.same _) (.cons (.same _) (.cons (.same _) (.cons (.same _) .nil))))))))⟩, trivial⟩ (by simp) ?_
    simp only [Option.some.injEq, Prod.mk.injEq] at hF
    obtain ⟨e0, e1, e2, e3, e4, e5, e6, e7⟩ := hF
    subst e0 e1 e2 e3 e4 e5 e6 e7
    refine AW.ret (hQ _ _ _ ?_ (matchO_0 ?_)).1
    · simp [Try.f50, h5, h6, h5_, h6_, h10, h11, h11_, h12, h13, h14, h14_, h13_, h14z, h14__, h15, h16, h16_, h17, h18, h19, h19_, h18_, h19__, h20, h20_, h21, h22, h22_]
    · simp [h5, h6, h5_, h6_, h10, h11, h11_, h12, h13, h14, h14_, h13_, h14z, h14__, h15, h16, h16_, h17, h18, h19, h19_, h18_, h19__, h20, h20_, h21, h22, h22_]
set_option maxHeartbeats 4000000 in
theorem w_mill_Odd (k : Nat) (v0 : (List Int)) (v1 : Int) (v2 : (List Int)) (v3 : (List Int)) (v4 : (List Int)) (v5 : Int) (v6 : Int) (v7 : Int) (v8 : Int) (v9 : (List Int)) (v10 : (List Int)) (v11 : (List Int)) (v12 : Int) (v13 : Int) (v14 : Int) (v15 : Int) (v16 : Int) (hF : mill_Odd k v0 v1 v2 v3 v4 v5 v6 v7 v8 = some (v9, v10, v11, v12, v13, v14, v15, v16)) :
    FCall Try.prog 51 [AV.ptr 0 0, AV.agg [AV.lst false false (List.map (AV.int .i64) v2), AV.lst false false (List.map (AV.int .i64) v3), AV.lst false false (List.map (AV.int .i64) v4), AV.int .i64 v5, AV.int .i64 v6, AV.int .i64 v7, AV.int .i64 v8]] [.cells [AV.lst false false (List.map (AV.int .i64) v0), AV.int .i64 v1]] (AV.agg [AV.lst false false (List.map (AV.int .i64) v9), AV.lst false false (List.map (AV.int .i64) v10), AV.lst false false (List.map (AV.int .i64) v11), AV.int .i64 v12, AV.int .i64 v13, AV.int .i64 v14, AV.int .i64 v15]) [some (.cells [AV.lst false false (List.map (AV.int .i64) v0), AV.int .i64 v16])] := by
  unfold mill_Odd at hF
  refine FCall.enter Try.func51 rfl (by simp) (by decide) (by simp) (by simp) (by simp) (by simp) (by simp) ?_
  intro c0 w0 Q h0 hQ
  refine AW.wk [(0, AV.ptr 0 0), (1, AV.agg [AV.lst false false (List.map (AV.int .i64) v2), AV.lst false false (List.map (AV.int .i64) v3), AV.lst false false (List.map (AV.int .i64) v4), AV.int .i64 v5, AV.int .i64 v6, AV.int .i64 v7, AV.int .i64 v8])] [(0, .cells [AV.lst false false (List.map (AV.int .i64) v0), AV.int .i64 v1])] 1 (by simp) (by simp) (by simp) ?_
  refine AW.seqR mixed [] [none, none] (by kernel_rfl) fun G32 R32 hG32 hR32 => ?_
  try simp
  repeat' apply And.intro
  any_goals (first | exact hG32 _ (by kernel_rfl) | refine hR32 _ _ _ ?_ | omega | (unfold maxLen; omega) | (simp; done) | (simp; omega))
  refine AW.wk [(0, AV.ptr 0 0), (3, AV.ptr 1 0), (4, AV.ptr 2 0)] [(0, .cells [AV.lst false false (List.map (AV.int .i64) v0), AV.int .i64 v1]), (1, .cells [AV.lst false false (List.map (AV.int .i64) v2), AV.lst false false (List.map (AV.int .i64) v3), AV.lst false false (List.map (AV.int .i64) v4), AV.int .i64 v5, AV.int .i64 v6, AV.int .i64 v7, AV.int .i64 v8]), (2, .cells [AV.lst true true (List.map (AV.int .i64) ([] : List Int)), AV.lst true true (List.map (AV.int .i64) ([] : List Int)), AV.lst true true (List.map (AV.int .i64) ([] : List Int)), AV.int .i64 0, AV.int .i64 0, AV.int .i64 0, AV.int .i64 0])] 3 (by simp) (by simp) (by simp) ?_
  refine AW.midF (α := ((List Int) × (List Int) × (List Int) × Int × Int × Int × Int × Int)) (fun (v17, v18, v19, v20, v21, v22, v23, v24) => mill_Odd.J1 k v17 v18 v19 v20 v21 v22 v23 v24 = some (v9, v10, v11, v12, v13, v14, v15, v16)) (fun (v17, v18, v19, v20, v21, v22, v23, v24) => [(3, AV.ptr 1 0), (4, AV.ptr 2 0)]) (fun (v17, v18, v19, v20, v21, v22, v23, v24) => [(0, .cells [AV.lst false false (List.map (AV.int .i64) v0), AV.int .i64 v24]), (1, .cells [AV.lst false false (List.map (AV.int .i64) v17), AV.lst false false (List.map (AV.int .i64) v18), AV.lst false false (List.map (AV.int .i64) v19), AV.int .i64 v20, AV.int .i64 v21, AV.int .i64 v22, AV.int .i64 v23]), (2, .cells [AV.lst true true (List.map (AV.int .i64) ([] : List Int)), AV.lst true true (List.map (AV.int .i64) ([] : List Int)), AV.lst true true (List.map (AV.int .i64) ([] : List Int)), AV.int .i64 0, AV.int .i64 0, AV.int .i64 0, AV.int .i64 0])]) 3 (fun K48 hK48 => ?_) ?_
  · refine AW.seqR mixed [] [none, none] (by kernel_rfl) fun G49 R49 hG49 hR49 => ?_
    try simp
    repeat' apply And.intro
    try any_goals (first | omega | (unfold maxLen; omega) | (simp; done))
    obtain ⟨v25, v26, h1, hF⟩ := bnd2_elim hF
    refine aCall_l (w_made_Dice_Next k _ _ _ _ _ h1) (by simp) [0] [] [0] rfl (.cons (.same (by simp)) (.cons (.same (by simp)) .nil)) (by simp) (by decide) (by simp) (by simp) (.inl rfl) (by simp) (by simp) ?_
    try simp
    repeat' apply And.intro
    any_goals (first | exact hG49 _ (by kernel_rfl) | refine hR49 _ _ _ ?_ | omega | (unfold maxLen; omega) | (simp; done) | (simp; omega))
    refine AW.wk [(0, AV.ptr 0 0), (3, AV.ptr 1 0), (4, AV.ptr 2 0), (6, AV.int .i64 v25)] [(0, .cells [AV.lst false false (List.map (AV.int .i64) v0), AV.int .i64 v26]), (1, .cells [AV.lst false false (List.map (AV.int .i64) v2), AV.lst false false (List.map (AV.int .i64) v3), AV.lst false false (List.map (AV.int .i64) v4), AV.int .i64 v5, AV.int .i64 v6, AV.int .i64 v7, AV.int .i64 v8]), (2, .cells [AV.lst true true (List.map (AV.int .i64) ([] : List Int)), AV.lst true true (List.map (AV.int .i64) ([] : List Int)), AV.lst true true (List.map (AV.int .i64) ([] : List Int)), AV.int .i64 0, AV.int .i64 0, AV.int .i64 0, AV.int .i64 0])] 3 (by simp) (by simp) (by simp) ?_
    refine AW.block ?_
    refine AW.seqR mixed [] [none, none] (by kernel_rfl) fun G50 R50 hG50 hR50 => ?_
    try simp
    repeat' apply And.intro
    any_goals (first | exact hG50 _ (by kernel_rfl) | refine hR50 _ _ _ ?_ | omega | (unfold maxLen; omega) | (simp; done) | (simp; omega))
    refine AW.wk [(0, AV.ptr 0 0), (3, AV.ptr 1 0), (4, AV.ptr 2 0), (6, AV.int .i64 v25), (12, AV.bool (v25 == 0))] [(0, .cells [AV.lst false false (List.map (AV.int .i64) v0), AV.int .i64 v26]), (1, .cells [AV.lst false false (List.map (AV.int .i64) v2), AV.lst false false (List.map (AV.int .i64) v3), AV.lst false false (List.map (AV.int .i64) v4), AV.int .i64 v5, AV.int .i64 v6, AV.int .i64 v7, AV.int .i64 v8]), (2, .cells [AV.lst true true (List.map (AV.int .i64) ([] : List Int)), AV.lst true true (List.map (AV.int .i64) ([] : List Int)), AV.lst true true (List.map (AV.int .i64) ([] : List Int)), AV.int .i64 0, AV.int .i64 0, AV.int .i64 0, AV.int .i64 0])] 3 (by simp) (by simp) (by simp) ?_
    by_cases h2 : v25 = 0
    · replace hF := ite_t h2 hF
      have h2q : v25 = 0 := h2
      have h2_ := eqb_t h2q
      have h2__ := neb_f h2q
      refine AW.condT (by decide) (by first | (simp [h2_, h2__, h2q]; done) | (simp [h2_, h2__, h2q]; omega)) ?_
      refine AW.region mixed [] [none, none, none, none, none, none, none, none, none, none, none] (by kernel_rfl) fun G51 R51 hG51 hR51 => ?_
      try simp [h2_, h2__, h2q]
      repeat' apply And.intro
      try any_goals (first | omega | (unfold maxLen; omega) | (simp [h2_, h2__, h2q]; done))
      obtain ⟨v27, v28, h3, hF⟩ := bnd2_elim hF
      refine aCall_l (w_made_Dice_Next k _ _ _ _ _ h3) (by simp) [0] [] [0] rfl (.cons (.same (by simp [h2_, h2__, h2q])) (.cons (.same (by simp [h2_, h2__, h2q])) .nil)) (by simp [h2_, h2__, h2q]) (by decide) (by simp) (by simp) (.inl rfl) (by simp) (by simp) ?_
      by_cases h4 : v27 = 0
      · replace hF := ite_t h4 hF
        have h4q : v27 = 0 := h4
        have h4_ := eqb_t h4q
        have h4__ := neb_f h4q
        try simp [h2_, h2__, h2q, h4_, h4__, h4q]
        repeat' apply And.intro
        any_goals (first | exact hG51 _ (by kernel_rfl) | refine hR51 _ _ _ ?_ | omega | (unfold maxLen; omega) | (simp [h2_, h2__, h2q, h4_, h4__, h4q]; done) | (simp [h2_, h2__, h2q, h4_, h4__, h4q]; omega))
        refine hK48 _ _ _ ?_
        refine Can.weak [(3, AV.ptr 1 0), (4, AV.ptr 2 0)] [(0, .cells [AV.lst false false (List.map (AV.int .i64) v0), AV.int .i64 v28]), (1, .cells [AV.lst true true (List.map (AV.int .i64) ([] : List Int)), AV.lst false false (List.map (AV.int .i64) v3), AV.lst false false (List.map (AV.int .i64) v4), AV.int .i64 v5, AV.int .i64 v6, AV.int .i64 v7, AV.int .i64 v8]), (2, .cells [AV.lst true true (List.map (AV.int .i64) ([] : List Int)), AV.lst true true (List.map (AV.int .i64) ([] : List Int)), AV.lst true true (List.map (AV.int .i64) ([] : List Int)), AV.int .i64 0, AV.int .i64 0, AV.int .i64 0, AV.int .i64 0])] 3 (by simp [h2_, h2__, h2q, h4_, h4__, h4q]) (by simp [h2_, h2__, h2q, h4_, h4__, h4q]) (by simp) ?_
        refine Can.flg [] [(1, .cells [AV.lst false false (List.map (AV.int .i64) ([] : List Int)), AV.lst false false (List.map (AV.int .i64) v3), AV.lst false false (List.map (AV.int .i64) v4), AV.int .i64 v5, AV.int .i64 v6, AV.int .i64 v7, AV.int .i64 v8])] trivial ⟨⟨AObj.cells [AV.lst true true (List.map (AV.int .i64) ([] : List Int)), AV.lst false false (List.map (AV.int .i64) v3), AV.lst false false (List.map (AV.int .i64) v4), AV.int .i64 v5, AV.int .i64 v6, AV.int .i64 v7, AV.int .i64 v8], by simp [h2_, h2__, h2q, h4_, h4__, h4q], (.mk (.cons (.lst (by simp)) (.cons (.same _) (.cons (.same _) (.cons (.same _) (.cons (.same _) (.cons (.same _) (.cons (.same _) .nil))))))))⟩, trivial⟩ (by simp) ?_
        exact Can.join ((([] : List Int), v3, v4, v5, v6, v7, v8, v28)) hF (by simp [h2_, h2__, h2q, h4_, h4__, h4q]) (by simp [h2_, h2__, h2q, h4_, h4__, h4q]) (by simp)
      · replace hF := ite_f h4 hF
        have h4_ := eqb_f h4
        have h4__ := neb_t h4
        by_cases h5 : v27 = 1
        · replace hF := ite_t h5 hF
          have h5q : v27 = 1 := h5
          have h5_ := eqb_t h5q
          have h5__ := neb_f h5q
          try simp [h2_, h2__, h2q, h4, h4_, h4__, h5_, h5__, h5q]
          repeat' apply And.intro
          any_goals (first | exact hG51 _ (by kernel_rfl) | refine hR51 _ _ _ ?_ | omega | (unfold maxLen; omega) | (simp [h2_, h2__, h2q, h4, h4_, h4__, h5_, h5__, h5q]; done) | (simp [h2_, h2__, h2q, h4, h4_, h4__, h5_, h5__, h5q]; omega))
          refine hK48 _ _ _ ?_
          refine Can.weak [(3, AV.ptr 1 0), (4, AV.ptr 2 0)] [(0, .cells [AV.lst false false (List.map (AV.int .i64) v0), AV.int .i64 v28]), (1, .cells [AV.lst false true (List.map (AV.int .i64) ([1, 1] : List Int)), AV.lst false false (List.map (AV.int .i64) v3), AV.lst false false (List.map (AV.int .i64) v4), AV.int .i64 v5, AV.int .i64 v6, AV.int .i64 v7, AV.int .i64 v8]), (2, .cells [AV.lst true true (List.map (AV.int .i64) ([] : List Int)), AV.lst true true (List.map (AV.int .i64) ([] : List Int)), AV.lst true true (List.map (AV.int .i64) ([] : List Int)), AV.int .i64 0, AV.int .i64 0, AV.int .i64 0, AV.int .i64 0])] 3 (by simp [h2_, h2__, h2q, h4, h4_, h4__, h5_, h5__, h5q]) (by simp [h2_, h2__, h2q, h4, h4_, h4__, h5_, h5__, h5q]) (by simp) ?_
          refine Can.flg [] [(1, .cells [AV.lst false false (List.map (AV.int .i64) ([1, 1] : List Int)), AV.lst false false (List.map (AV.int .i64) v3), AV.lst false false (List.map (AV.int .i64) v4), AV.int .i64 v5, AV.int .i64 v6, AV.int .i64 v7, AV.int .i64 v8])] trivial ⟨⟨AObj.cells [AV.lst false true (List.map (AV.int .i64) ([1, 1] : List Int)), AV.lst false false (List.map (AV.int .i64) v3), AV.lst false false (List.map (AV.int .i64) v4), AV.int .i64 v5, AV.int .i64 v6, AV.int .i64 v7, AV.int .i64 v8], by simp [h2_, h2__, h2q, h4, h4_, h4__, h5_, h5__, h5q], (.mk (.cons (.lst (by simp)) (.cons (.same _) (.cons (.same _) (.cons (.same _) (.cons (.same _) (.cons (.same _) (.cons (.same _) .nil))))))))⟩, trivial⟩ (by simp) ?_
          exact Can.join ((([1, 1] : List Int), v3, v4, v5, v6, v7, v8, v28)) hF (by simp [h2_, h2__, h2q, h4, h4_, h4__, h5_, h5__, h5q]) (by simp [h2_, h2__, h2q, h4, h4_, h4__, h5_, h5__, h5q]) (by simp)
        · replace hF := ite_f h5 hF
          have h5_ := eqb_f h5
          have h5__ := neb_t h5
          by_cases h6 : v27 = 2
          · replace hF := ite_t h6 hF
            have h6q : v27 = 2 := h6
            have h6_ := eqb_t h6q
            have h6__ := neb_f h6q
            try simp [h2_, h2__, h2q, h4, h4_, h4__, h5, h5_, h5__, h6_, h6__, h6q]
            repeat' apply And.intro
            any_goals (first | exact hG51 _ (by kernel_rfl) | refine hR51 _ _ _ ?_ | omega | (unfold maxLen; omega) | (simp [h2_, h2__, h2q, h4, h4_, h4__, h5, h5_, h5__, h6_, h6__, h6q]; done) | (simp [h2_, h2__, h2q, h4, h4_, h4__, h5, h5_, h5__, h6_, h6__, h6q]; omega))
            refine hK48 _ _ _ ?_
            refine Can.weak [(3, AV.ptr 1 0), (4, AV.ptr 2 0)] [(0, .cells [AV.lst false false (List.map (AV.int .i64) v0), AV.int .i64 v28]), (1, .cells [AV.lst false true (List.map (AV.int .i64) ([-1] : List Int)), AV.lst false false (List.map (AV.int .i64) v3), AV.lst false false (List.map (AV.int .i64) v4), AV.int .i64 v5, AV.int .i64 v6, AV.int .i64 v7, AV.int .i64 v8]), (2, .cells [AV.lst true true (List.map (AV.int .i64) ([] : List Int)), AV.lst true true (List.map (AV.int .i64) ([] : List Int)), AV.lst true true (List.map (AV.int .i64) ([] : List Int)), AV.int .i64 0, AV.int .i64 0, AV.int .i64 0, AV.int .i64 0])] 3 (by simp [h2_, h2__, h2q, h4, h4_, h4__, h5, h5_, h5__, h6_, h6__, h6q]) (by simp [h2_, h2__, h2q, h4, h4_, h4__, h5, h5_, h5__, h6_, h6__, h6q]) (by simp) ?_
            refine Can.flg [] [(1, .cells [AV.lst false false (List.map (AV.int .i64) ([-1] : List Int)), AV.lst false false (List.map (AV.int .i64) v3), AV.lst false false (List.map (AV.int .i64) v4), AV.int .i64 v5, AV.int .i64 v6, AV.int .i64 v7, AV.int .i64 v8])] trivial ⟨⟨AObj.cells [AV.lst false true (List.map (AV.int .i64) ([-1] : List Int)), AV.lst false false (List.map (AV.int .i64) v3), AV.lst false false (List.map (AV.int .i64) v4), AV.int .i64 v5, AV.int .i64 v6, AV.int .i64 v7, AV.int .i64 v8], by simp [h2_, h2__, h2q, h4, h4_, h4__, h5, h5_, h5__, h6_, h6__, h6q], (.mk (.cons (.lst (by simp)) (.cons (.same _) (.cons (.same _) (.cons (.same _) (.cons (.same _) (.cons (.same _) (.cons (.same _) .nil))))))))⟩, trivial⟩ (by simp) ?_
            exact Can.join ((([-1] : List Int), v3, v4, v5, v6, v7, v8, v28)) hF (by simp [h2_, h2__, h2q, h4, h4_, h4__, h5, h5_, h5__, h6_, h6__, h6q]) (by simp [h2_, h2__, h2q, h4, h4_, h4__, h5, h5_, h5__, h6_, h6__, h6q]) (by simp)
          · replace hF := ite_f h6 hF
            have h6_ := eqb_f h6
            have h6__ := neb_t h6
            by_cases h7 : v27 = 3
            · replace hF := ite_t h7 hF
              have h7q : v27 = 3 := h7
              have h7_ := eqb_t h7q
              have h7__ := neb_f h7q
              try simp [h2_, h2__, h2q, h4, h4_, h4__, h5, h5_, h5__, h6, h6_, h6__, h7_, h7__, h7q]
              repeat' apply And.intro
              any_goals (first | exact hG51 _ (by kernel_rfl) | refine hR51 _ _ _ ?_ | omega | (unfold maxLen; omega) | (simp [h2_, h2__, h2q, h4, h4_, h4__, h5, h5_, h5__, h6, h6_, h6__, h7_, h7__, h7q]; done) | (simp [h2_, h2__, h2q, h4, h4_, h4__, h5, h5_, h5__, h6, h6_, h6__, h7_, h7__, h7q]; omega))
              refine hK48 _ _ _ ?_
              refine Can.weak [(3, AV.ptr 1 0), (4, AV.ptr 2 0)] [(0, .cells [AV.lst false false (List.map (AV.int .i64) v0), AV.int .i64 v28]), (1, .cells [AV.lst false true (List.map (AV.int .i64) ([64] : List Int)), AV.lst false false (List.map (AV.int .i64) v3), AV.lst false false (List.map (AV.int .i64) v4), AV.int .i64 v5, AV.int .i64 v6, AV.int .i64 v7, AV.int .i64 v8]), (2, .cells [AV.lst true true (List.map (AV.int .i64) ([] : List Int)), AV.lst true true (List.map (AV.int .i64) ([] : List Int)), AV.lst true true (List.map (AV.int .i64) ([] : List Int)), AV.int .i64 0, AV.int .i64 0, AV.int .i64 0, AV.int .i64 0])] 3 (by simp [h2_, h2__, h2q, h4, h4_, h4__, h5, h5_, h5__, h6, h6_, h6__, h7_, h7__, h7q]) (by simp [h2_, h2__, h2q, h4, h4_, h4__, h5, h5_, h5__, h6, h6_, h6__, h7_, h7__, h7q]) (by simp) ?_
              refine Can.flg [] [(1, .cells [AV.lst false false (List.map (AV.int .i64) ([64] : List Int)), AV.lst false false (List.map (AV.int .i64) v3), AV.lst false false (List.map (AV.int .i64) v4), AV.int .i64 v5, AV.int .i64 v6, AV.int .i64 v7, AV.int .i64 v8])] trivial ⟨⟨AObj.cells [AV.lst false true (List.map (AV.int .i64) ([64] : List Int)), AV.lst false false (List.map (AV.int .i64) v3), AV.lst false false (List.map (AV.int .i64) v4), AV.int .i64 v5, AV.int .i64 v6, AV.int .i64 v7, AV.int .i64 v8], by simp [h2_, h2__, h2q, h4, h4_, h4__, h5, h5_, h5__, h6, h6_, h6__, h7_, h7__, h7q], (.mk (.cons (.lst (by simp)) (.cons (.same _) (.cons (.same _) (.cons (.same _) (.cons (.same _) (.cons (.same _) (.cons (.same _) .nil))))))))⟩, trivial⟩ (by simp) ?_
              exact Can.join ((([64] : List Int), v3, v4, v5, v6, v7, v8, v28)) hF (by simp [h2_, h2__, h2q, h4, h4_, h4__, h5, h5_, h5__, h6, h6_, h6__, h7_, h7__, h7q]) (by simp [h2_, h2__, h2q, h4, h4_, h4__, h5, h5_, h5__, h6, h6_, h6__, h7_, h7__, h7q]) (by simp)
            · replace hF := ite_f h7 hF
              have h7_ := eqb_f h7
              have h7__ := neb_t h7
              by_cases h8 : v27 = 4
              · replace hF := ite_t h8 hF
                have h8q : v27 = 4 := h8
                have h8_ := eqb_t h8q
                have h8__ := neb_f h8q
                try simp [h2_, h2__, h2q, h4, h4_, h4__, h5, h5_, h5__, h6, h6_, h6__, h7, h7_, h7__, h8_, h8__, h8q]
                repeat' apply And.intro
                any_goals (first | exact hG51 _ (by kernel_rfl) | refine hR51 _ _ _ ?_ | omega | (unfold maxLen; omega) | (simp [h2_, h2__, h2q, h4, h4_, h4__, h5, h5_, h5__, h6, h6_, h6__, h7, h7_, h7__, h8_, h8__, h8q]; done) | (simp [h2_, h2__, h2q, h4, h4_, h4__, h5, h5_, h5__, h6, h6_, h6__, h7, h7_, h7__, h8_, h8__, h8q]; omega))
                refine hK48 _ _ _ ?_
                refine Can.weak [(3, AV.ptr 1 0), (4, AV.ptr 2 0)] [(0, .cells [AV.lst false false (List.map (AV.int .i64) v0), AV.int .i64 v28]), (1, .cells [AV.lst false true (List.map (AV.int .i64) ([3, 2] : List Int)), AV.lst false false (List.map (AV.int .i64) v3), AV.lst false false (List.map (AV.int .i64) v4), AV.int .i64 v5, AV.int .i64 v6, AV.int .i64 v7, AV.int .i64 v8]), (2, .cells [AV.lst true true (List.map (AV.int .i64) ([] : List Int)), AV.lst true true (List.map (AV.int .i64) ([] : List Int)), AV.lst true true (List.map (AV.int .i64) ([] : List Int)), AV.int .i64 0, AV.int .i64 0, AV.int .i64 0, AV.int .i64 0])] 3 (by simp [h2_, h2__, h2q, h4, h4_, h4__, h5, h5_, h5__, h6, h6_, h6__, h7, h7_, h7__, h8_, h8__, h8q]) (by simp [h2_, h2__, h2q, h4, h4_, h4__, h5, h5_, h5__, h6, h6_, h6__, h7, h7_, h7__, h8_, h8__, h8q]) (by simp) ?_
                refine Can.flg [] [(1, .cells [AV.lst false false (List.map (AV.int .i64) ([3, 2] : List Int)), AV.lst false false (List.map (AV.int .i64) v3), AV.lst false false (List.map (AV.int .i64) v4), AV.int .i64 v5, AV.int .i64 v6, AV.int .i64 v7, AV.int .i64 v8])] trivial ⟨⟨AObj.cells [AV.lst false true (List.map (AV.int .i64) ([3, 2] : List Int)), AV.lst false false (List.map (AV.int .i64) v3), AV.lst false false (List.map (AV.int .i64) v4), AV.int .i64 v5, AV.int .i64 v6, AV.int .i64 v7, AV.int .i64 v8], by simp [h2_, h2__, h2q, h4, h4_, h4__, h5, h5_, h5__, h6, h6_, h6__, h7, h7_, h7__, h8_, h8__, h8q], (.mk (.cons (.lst (by simp)) (.cons (.same _) (.cons (.same _) (.cons (.same _) (.cons (.same _) (.cons (.same _) (.cons (.same _) .nil))))))))⟩, trivial⟩ (by simp) ?_
                exact Can.join ((([3, 2] : List Int), v3, v4, v5, v6, v7, v8, v28)) hF (by simp [h2_, h2__, h2q, h4, h4_, h4__, h5, h5_, h5__, h6, h6_, h6__, h7, h7_, h7__, h8_, h8__, h8q]) (by simp [h2_, h2__, h2q, h4, h4_, h4__, h5, h5_, h5__, h6, h6_, h6__, h7, h7_, h7__, h8_, h8__, h8q]) (by simp)
              · replace hF := ite_f h8 hF
                have h8_ := eqb_f h8
                have h8__ := neb_t h8
                cases hF
    · replace hF := ite_f h2 hF
      have h2_ := eqb_f h2
      have h2__ := neb_t h2
      refine AW.condF (by decide) (by first | (simp [h2, h2_, h2__]; done) | (simp [h2, h2_, h2__]; omega)) ?_
      refine AW.seqR mixed [] [none, none] (by kernel_rfl) fun G52 R52 hG52 hR52 => ?_
      try simp [h2, h2_, h2__]
      repeat' apply And.intro
      any_goals (first | exact hG52 _ (by kernel_rfl) | refine hR52 _ _ _ ?_ | omega | (unfold maxLen; omega) | (simp [h2, h2_, h2__]; done) | (simp [h2, h2_, h2__]; omega))
      refine AW.wk [(0, AV.ptr 0 0), (3, AV.ptr 1 0), (4, AV.ptr 2 0), (6, AV.int .i64 v25), (24, AV.bool (v25 == 1))] [(0, .cells [AV.lst false false (List.map (AV.int .i64) v0), AV.int .i64 v26]), (1, .cells [AV.lst false false (List.map (AV.int .i64) v2), AV.lst false false (List.map (AV.int .i64) v3), AV.lst false false (List.map (AV.int .i64) v4), AV.int .i64 v5, AV.int .i64 v6, AV.int .i64 v7, AV.int .i64 v8]), (2, .cells [AV.lst true true (List.map (AV.int .i64) ([] : List Int)), AV.lst true true (List.map (AV.int .i64) ([] : List Int)), AV.lst true true (List.map (AV.int .i64) ([] : List Int)), AV.int .i64 0, AV.int .i64 0, AV.int .i64 0, AV.int .i64 0])] 3 (by simp [h2, h2_, h2__]) (by simp [h2, h2_, h2__]) (by simp) ?_
      by_cases h9 : v25 = 1
      · replace hF := ite_t h9 hF
        have h9q : v25 = 1 := h9
        have h9_ := eqb_t h9q
        have h9__ := neb_f h9q
        refine AW.condT (by decide) (by first | (simp [h2, h2_, h2__, h9_, h9__, h9q]; done) | (simp [h2, h2_, h2__, h9_, h9__, h9q]; omega)) ?_
        refine AW.region mixed [] [none, none, none, none, none] (by kernel_rfl) fun G53 R53 hG53 hR53 => ?_
        try simp [h2, h2_, h2__, h9_, h9__, h9q]
        repeat' apply And.intro
        try any_goals (first | omega | (unfold maxLen; omega) | (simp [h2, h2_, h2__, h9_, h9__, h9q]; done))
        obtain ⟨v29, v30, h10, hF⟩ := bnd2_elim hF
        refine aCall_l (w_made_Dice_Of k _ _ _ _ _ h10) (by simp) [0] [] [0] rfl (.cons (.same (by simp [h2, h2_, h2__, h9_, h9__, h9q])) (.cons (Coe.fl (by simp [h2, h2_, h2__, h9_, h9__, h9q])) .nil)) (by simp [h2, h2_, h2__, h9_, h9__, h9q]) (by decide) (by simp) (by simp) (.inl rfl) (by simp) (by simp) ?_
        try simp [h2, h2_, h2__, h9_, h9__, h9q]
        repeat' apply And.intro
        any_goals (first | exact hG53 _ (by kernel_rfl) | refine hR53 _ _ _ ?_ | omega | (unfold maxLen; omega) | (simp [h2, h2_, h2__, h9_, h9__, h9q]; done) | (simp [h2, h2_, h2__, h9_, h9__, h9q]; omega))
        refine hK48 _ _ _ ?_
        refine Can.weak [(3, AV.ptr 1 0), (4, AV.ptr 2 0)] [(0, .cells [AV.lst false false (List.map (AV.int .i64) v0), AV.int .i64 v30]), (1, .cells [AV.lst false false (List.map (AV.int .i64) v2), AV.lst false false (List.map (AV.int .i64) v3), AV.lst false false (List.map (AV.int .i64) v4), AV.int .i64 v5, AV.int .i64 v29, AV.int .i64 v7, AV.int .i64 v8]), (2, .cells [AV.lst true true (List.map (AV.int .i64) ([] : List Int)), AV.lst true true (List.map (AV.int .i64) ([] : List Int)), AV.lst true true (List.map (AV.int .i64) ([] : List Int)), AV.int .i64 0, AV.int .i64 0, AV.int .i64 0, AV.int .i64 0])] 3 (by simp [h2, h2_, h2__, h9_, h9__, h9q]) (by simp [h2, h2_, h2__, h9_, h9__, h9q]) (by simp) ?_
        exact Can.join ((v2, v3, v4, v5, v29, v7, v8, v30)) hF (by simp [h2, h2_, h2__, h9_, h9__, h9q]) (by simp [h2, h2_, h2__, h9_, h9__, h9q]) (by simp)
      · replace hF := ite_f h9 hF
        have h9_ := eqb_f h9
        have h9__ := neb_t h9
        refine AW.condF (by decide) (by first | (simp [h2, h2_, h2__, h9, h9_, h9__]; done) | (simp [h2, h2_, h2__, h9, h9_, h9__]; omega)) ?_
        refine AW.seqR mixed [] [none, none] (by kernel_rfl) fun G54 R54 hG54 hR54 => ?_
        try simp [h2, h2_, h2__, h9, h9_, h9__]
        repeat' apply And.intro
        any_goals (first | exact hG54 _ (by kernel_rfl) | refine hR54 _ _ _ ?_ | omega | (unfold maxLen; omega) | (simp [h2, h2_, h2__, h9, h9_, h9__]; done) | (simp [h2, h2_, h2__, h9, h9_, h9__]; omega))
        refine AW.wk [(0, AV.ptr 0 0), (3, AV.ptr 1 0), (4, AV.ptr 2 0), (6, AV.int .i64 v25), (30, AV.bool (v25 == 2))] [(0, .cells [AV.lst false false (List.map (AV.int .i64) v0), AV.int .i64 v26]), (1, .cells [AV.lst false false (List.map (AV.int .i64) v2), AV.lst false false (List.map (AV.int .i64) v3), AV.lst false false (List.map (AV.int .i64) v4), AV.int .i64 v5, AV.int .i64 v6, AV.int .i64 v7, AV.int .i64 v8]), (2, .cells [AV.lst true true (List.map (AV.int .i64) ([] : List Int)), AV.lst true true (List.map (AV.int .i64) ([] : List Int)), AV.lst true true (List.map (AV.int .i64) ([] : List Int)), AV.int .i64 0, AV.int .i64 0, AV.int .i64 0, AV.int .i64 0])] 3 (by simp [h2, h2_, h2__, h9, h9_, h9__]) (by simp [h2, h2_, h2__, h9, h9_, h9__]) (by simp) ?_
        by_cases h11 : v25 = 2
        · replace hF := ite_t h11 hF
          have h11q : v25 = 2 := h11
          have h11_ := eqb_t h11q
          have h11__ := neb_f h11q
          refine AW.condT (by decide) (by first | (simp [h2, h2_, h2__, h9, h9_, h9__, h11_, h11__, h11q]; done) | (simp [h2, h2_, h2__, h9, h9_, h9__, h11_, h11__, h11q]; omega)) ?_
          refine AW.region mixed [] [none, none, none, none, none] (by kernel_rfl) fun G55 R55 hG55 hR55 => ?_
          try simp [h2, h2_, h2__, h9, h9_, h9__, h11_, h11__, h11q]
          repeat' apply And.intro
          try any_goals (first | omega | (unfold maxLen; omega) | (simp [h2, h2_, h2__, h9, h9_, h9__, h11_, h11__, h11q]; done))
          obtain ⟨v31, v32, h12, hF⟩ := bnd2_elim hF
          refine aCall_l (w_made_Dice_Of k _ _ _ _ _ h12) (by simp) [0] [] [0] rfl (.cons (.same (by simp [h2, h2_, h2__, h9, h9_, h9__, h11_, h11__, h11q])) (.cons (Coe.fl (by simp [h2, h2_, h2__, h9, h9_, h9__, h11_, h11__, h11q])) .nil)) (by simp [h2, h2_, h2__, h9, h9_, h9__, h11_, h11__, h11q]) (by decide) (by simp) (by simp) (.inl rfl) (by simp) (by simp) ?_
          try simp [h2, h2_, h2__, h9, h9_, h9__, h11_, h11__, h11q]
          repeat' apply And.intro
          any_goals (first | exact hG55 _ (by kernel_rfl) | refine hR55 _ _ _ ?_ | omega | (unfold maxLen; omega) | (simp [h2, h2_, h2__, h9, h9_, h9__, h11_, h11__, h11q]; done) | (simp [h2, h2_, h2__, h9, h9_, h9__, h11_, h11__, h11q]; omega))
          refine hK48 _ _ _ ?_
          refine Can.weak [(3, AV.ptr 1 0), (4, AV.ptr 2 0)] [(0, .cells [AV.lst false false (List.map (AV.int .i64) v0), AV.int .i64 v32]), (1, .cells [AV.lst false false (List.map (AV.int .i64) v2), AV.lst false false (List.map (AV.int .i64) v3), AV.lst false false (List.map (AV.int .i64) v4), AV.int .i64 v5, AV.int .i64 v6, AV.int .i64 v31, AV.int .i64 v8]), (2, .cells [AV.lst true true (List.map (AV.int .i64) ([] : List Int)), AV.lst true true (List.map (AV.int .i64) ([] : List Int)), AV.lst true true (List.map (AV.int .i64) ([] : List Int)), AV.int .i64 0, AV.int .i64 0, AV.int .i64 0, AV.int .i64 0])] 3 (by simp [h2, h2_, h2__, h9, h9_, h9__, h11_, h11__, h11q]) (by simp [h2, h2_, h2__, h9, h9_, h9__, h11_, h11__, h11q]) (by simp) ?_
          exact Can.join ((v2, v3, v4, v5, v6, v31, v8, v32)) hF (by simp [h2, h2_, h2__, h9, h9_, h9__, h11_, h11__, h11q]) (by simp [h2, h2_, h2__, h9, h9_, h9__, h11_, h11__, h11q]) (by simp)
        · replace hF := ite_f h11 hF
          have h11_ := eqb_f h11
          have h11__ := neb_t h11
          refine AW.condF (by decide) (by first | (simp [h2, h2_, h2__, h9, h9_, h9__, h11, h11_, h11__]; done) | (simp [h2, h2_, h2__, h9, h9_, h9__, h11, h11_, h11__]; omega)) ?_
          refine AW.seqR mixed [] [none, none] (by kernel_rfl) fun G56 R56 hG56 hR56 => ?_
          try simp [h2, h2_, h2__, h9, h9_, h9__, h11, h11_, h11__]
          repeat' apply And.intro
          any_goals (first | exact hG56 _ (by kernel_rfl) | refine hR56 _ _ _ ?_ | omega | (unfold maxLen; omega) | (simp [h2, h2_, h2__, h9, h9_, h9__, h11, h11_, h11__]; done) | (simp [h2, h2_, h2__, h9, h9_, h9__, h11, h11_, h11__]; omega))
          refine AW.wk [(0, AV.ptr 0 0), (3, AV.ptr 1 0), (4, AV.ptr 2 0), (6, AV.int .i64 v25), (36, AV.bool (v25 == 3))] [(0, .cells [AV.lst false false (List.map (AV.int .i64) v0), AV.int .i64 v26]), (1, .cells [AV.lst false false (List.map (AV.int .i64) v2), AV.lst false false (List.map (AV.int .i64) v3), AV.lst false false (List.map (AV.int .i64) v4), AV.int .i64 v5, AV.int .i64 v6, AV.int .i64 v7, AV.int .i64 v8]), (2, .cells [AV.lst true true (List.map (AV.int .i64) ([] : List Int)), AV.lst true true (List.map (AV.int .i64) ([] : List Int)), AV.lst true true (List.map (AV.int .i64) ([] : List Int)), AV.int .i64 0, AV.int .i64 0, AV.int .i64 0, AV.int .i64 0])] 3 (by simp [h2, h2_, h2__, h9, h9_, h9__, h11, h11_, h11__]) (by simp [h2, h2_, h2__, h9, h9_, h9__, h11, h11_, h11__]) (by simp) ?_
          by_cases h13 : v25 = 3
          · replace hF := ite_t h13 hF
            have h13q : v25 = 3 := h13
            have h13_ := eqb_t h13q
            have h13__ := neb_f h13q
            refine AW.condT (by decide) (by first | (simp [h2, h2_, h2__, h9, h9_, h9__, h11, h11_, h11__, h13_, h13__, h13q]; done) | (simp [h2, h2_, h2__, h9, h9_, h9__, h11, h11_, h11__, h13_, h13__, h13q]; omega)) ?_
            refine AW.region mixed [] [none, none, none, none, none] (by kernel_rfl) fun G57 R57 hG57 hR57 => ?_
            try simp [h2, h2_, h2__, h9, h9_, h9__, h11, h11_, h11__, h13_, h13__, h13q]
            repeat' apply And.intro
            try any_goals (first | omega | (unfold maxLen; omega) | (simp [h2, h2_, h2__, h9, h9_, h9__, h11, h11_, h11__, h13_, h13__, h13q]; done))
            obtain ⟨v33, v34, h14, hF⟩ := bnd2_elim hF
            refine aCall_l (w_made_Dice_Of k _ _ _ _ _ h14) (by simp) [0] [] [0] rfl (.cons (.same (by simp [h2, h2_, h2__, h9, h9_, h9__, h11, h11_, h11__, h13_, h13__, h13q])) (.cons (Coe.fl (by simp [h2, h2_, h2__, h9, h9_, h9__, h11, h11_, h11__, h13_, h13__, h13q])) .nil)) (by simp [h2, h2_, h2__, h9, h9_, h9__, h11, h11_, h11__, h13_, h13__, h13q]) (by decide) (by simp) (by simp) (.inl rfl) (by simp) (by simp) ?_
            try simp [h2, h2_, h2__, h9, h9_, h9__, h11, h11_, h11__, h13_, h13__, h13q]
            repeat' apply And.intro
            any_goals (first | exact hG57 _ (by kernel_rfl) | refine hR57 _ _ _ ?_ | omega | (unfold maxLen; omega) | (simp [h2, h2_, h2__, h9, h9_, h9__, h11, h11_, h11__, h13_, h13__, h13q]; done) | (simp [h2, h2_, h2__, h9, h9_, h9__, h11, h11_, h11__, h13_, h13__, h13q]; omega))
            refine hK48 _ _ _ ?_
            refine Can.weak [(3, AV.ptr 1 0), (4, AV.ptr 2 0)] [(0, .cells [AV.lst false false (List.map (AV.int .i64) v0), AV.int .i64 v34]), (1, .cells [AV.lst false false (List.map (AV.int .i64) v2), AV.lst false false (List.map (AV.int .i64) v3), AV.lst false false (List.map (AV.int .i64) v4), AV.int .i64 v5, AV.int .i64 v6, AV.int .i64 v7, AV.int .i64 v33]), (2, .cells [AV.lst true true (List.map (AV.int .i64) ([] : List Int)), AV.lst true true (List.map (AV.int .i64) ([] : List Int)), AV.lst true true (List.map (AV.int .i64) ([] : List Int)), AV.int .i64 0, AV.int .i64 0, AV.int .i64 0, AV.int .i64 0])] 3 (by simp [h2, h2_, h2__, h9, h9_, h9__, h11, h11_, h11__, h13_, h13__, h13q]) (by simp [h2, h2_, h2__, h9, h9_, h9__, h11, h11_, h11__, h13_, h13__, h13q]) (by simp) ?_
            exact Can.join ((v2, v3, v4, v5, v6, v7, v33, v34)) hF (by simp [h2, h2_, h2__, h9, h9_, h9__, h11, h11_, h11__, h13_, h13__, h13q]) (by simp [h2, h2_, h2__, h9, h9_, h9__, h11, h11_, h11__, h13_, h13__, h13q]) (by simp)
          · replace hF := ite_f h13 hF
            have h13_ := eqb_f h13
            have h13__ := neb_t h13
            refine AW.condF (by decide) (by first | (simp [h2, h2_, h2__, h9, h9_, h9__, h11, h11_, h11__, h13, h13_, h13__]; done) | (simp [h2, h2_, h2__, h9, h9_, h9__, h11, h11_, h11__, h13, h13_, h13__]; omega)) ?_
            refine AW.seqR mixed [] [none, none] (by kernel_rfl) fun G58 R58 hG58 hR58 => ?_
            try simp [h2, h2_, h2__, h9, h9_, h9__, h11, h11_, h11__, h13, h13_, h13__]
            repeat' apply And.intro
            any_goals (first | exact hG58 _ (by kernel_rfl) | refine hR58 _ _ _ ?_ | omega | (unfold maxLen; omega) | (simp [h2, h2_, h2__, h9, h9_, h9__, h11, h11_, h11__, h13, h13_, h13__]; done) | (simp [h2, h2_, h2__, h9, h9_, h9__, h11, h11_, h11__, h13, h13_, h13__]; omega))
            refine AW.wk [(0, AV.ptr 0 0), (3, AV.ptr 1 0), (4, AV.ptr 2 0), (6, AV.int .i64 v25), (42, AV.bool (v25 == 4))] [(0, .cells [AV.lst false false (List.map (AV.int .i64) v0), AV.int .i64 v26]), (1, .cells [AV.lst false false (List.map (AV.int .i64) v2), AV.lst false false (List.map (AV.int .i64) v3), AV.lst false false (List.map (AV.int .i64) v4), AV.int .i64 v5, AV.int .i64 v6, AV.int .i64 v7, AV.int .i64 v8]), (2, .cells [AV.lst true true (List.map (AV.int .i64) ([] : List Int)), AV.lst true true (List.map (AV.int .i64) ([] : List Int)), AV.lst true true (List.map (AV.int .i64) ([] : List Int)), AV.int .i64 0, AV.int .i64 0, AV.int .i64 0, AV.int .i64 0])] 3 (by simp [h2, h2_, h2__, h9, h9_, h9__, h11, h11_, h11__, h13, h13_, h13__]) (by simp [h2, h2_, h2__, h9, h9_, h9__, h11, h11_, h11__, h13, h13_, h13__]) (by simp) ?_
            by_cases h15 : v25 = 4
            · replace hF := ite_t h15 hF
              have h15q : v25 = 4 := h15
              have h15_ := eqb_t h15q
              have h15__ := neb_f h15q
              refine AW.condT (by decide) (by first | (simp [h2, h2_, h2__, h9, h9_, h9__, h11, h11_, h11__, h13, h13_, h13__, h15_, h15__, h15q]; done) | (simp [h2, h2_, h2__, h9, h9_, h9__, h11, h11_, h11__, h13, h13_, h13__, h15_, h15__, h15q]; omega)) ?_
              refine AW.region mixed [] [none, none, none, none, none, none, none, none, none, none] (by kernel_rfl) fun G59 R59 hG59 hR59 => ?_
              try simp [h2, h2_, h2__, h9, h9_, h9__, h11, h11_, h11__, h13, h13_, h13__, h15_, h15__, h15q]
              repeat' apply And.intro
              try any_goals (first | omega | (unfold maxLen; omega) | (simp [h2, h2_, h2__, h9, h9_, h9__, h11, h11_, h11__, h13, h13_, h13__, h15_, h15__, h15q]; done))
              obtain ⟨v35, v36, h16, hF⟩ := bnd2_elim hF
              refine aCall_l (w_made_Dice_Next k _ _ _ _ _ h16) (by simp) [0] [] [0] rfl (.cons (.same (by simp [h2, h2_, h2__, h9, h9_, h9__, h11, h11_, h11__, h13, h13_, h13__, h15_, h15__, h15q])) (.cons (.same (by simp [h2, h2_, h2__, h9, h9_, h9__, h11, h11_, h11__, h13, h13_, h13__, h15_, h15__, h15q])) .nil)) (by simp [h2, h2_, h2__, h9, h9_, h9__, h11, h11_, h11__, h13, h13_, h13__, h15_, h15__, h15q]) (by decide) (by simp) (by simp) (.inl rfl) (by simp) (by simp) ?_
              by_cases h17 : v35 = 0
              · replace hF := ite_t h17 hF
                have h17q : v35 = 0 := h17
                have h17_ := eqb_t h17q
                have h17__ := neb_f h17q
                try simp [h2, h2_, h2__, h9, h9_, h9__, h11, h11_, h11__, h13, h13_, h13__, h15_, h15__, h15q, h17_, h17__, h17q]
                repeat' apply And.intro
                any_goals (first | exact hG59 _ (by kernel_rfl) | refine hR59 _ _ _ ?_ | omega | (unfold maxLen; omega) | (simp [h2, h2_, h2__, h9, h9_, h9__, h11, h11_, h11__, h13, h13_, h13__, h15_, h15__, h15q, h17_, h17__, h17q]; done) | (simp [h2, h2_, h2__, h9, h9_, h9__, h11, h11_, h11__, h13, h13_, h13__, h15_, h15__, h15q, h17_, h17__, h17q]; omega))
                refine hK48 _ _ _ ?_
                refine Can.weak [(3, AV.ptr 1 0), (4, AV.ptr 2 0)] [(0, .cells [AV.lst false false (List.map (AV.int .i64) v0), AV.int .i64 v36]), (1, .cells [AV.lst false false (List.map (AV.int .i64) v2), AV.lst true true (List.map (AV.int .i64) ([] : List Int)), AV.lst false false (List.map (AV.int .i64) v4), AV.int .i64 v5, AV.int .i64 v6, AV.int .i64 v7, AV.int .i64 v8]), (2, .cells [AV.lst true true (List.map (AV.int .i64) ([] : List Int)), AV.lst true true (List.map (AV.int .i64) ([] : List Int)), AV.lst true true (List.map (AV.int .i64) ([] : List Int)), AV.int .i64 0, AV.int .i64 0, AV.int .i64 0, AV.int .i64 0])] 3 (by simp [h2, h2_, h2__, h9, h9_, h9__, h11, h11_, h11__, h13, h13_, h13__, h15_, h15__, h15q, h17_, h17__, h17q]) (by simp [h2, h2_, h2__, h9, h9_, h9__, h11, h11_, h11__, h13, h13_, h13__, h15_, h15__, h15q, h17_, h17__, h17q]) (by simp) ?_
                refine Can.flg [] [(1, .cells [AV.lst false false (List.map (AV.int .i64) v2), AV.lst false false (List.map (AV.int .i64) ([] : List Int)), AV.lst false false (List.map (AV.int .i64) v4), AV.int .i64 v5, AV.int .i64 v6, AV.int .i64 v7, AV.int .i64 v8])] trivial ⟨⟨AObj.cells [AV.lst false false (List.map (AV.int .i64) v2), AV.lst true true (List.map (AV.int .i64) ([] : List Int)), AV.lst false false (List.map (AV.int .i64) v4), AV.int .i64 v5, AV.int .i64 v6, AV.int .i64 v7, AV.int .i64 v8], by simp [h2, h2_, h2__, h9, h9_, h9__, h11, h11_, h11__, h13, h13_, h13__, h15_, h15__, h15q, h17_, h17__, h17q], (.mk (.cons (.same _) (.cons (.lst (by simp)) (.cons (.same _) (.cons (.same _) (.cons (.same _) (.cons (.same _) (.cons (.same _) .nil))))))))⟩, trivial⟩ (by simp) ?_
                exact Can.join ((v2, ([] : List Int), v4, v5, v6, v7, v8, v36)) hF (by simp [h2, h2_, h2__, h9, h9_, h9__, h11, h11_, h11__, h13, h13_, h13__, h15_, h15__, h15q, h17_, h17__, h17q]) (by simp [h2, h2_, h2__, h9, h9_, h9__, h11, h11_, h11__, h13, h13_, h13__, h15_, h15__, h15q, h17_, h17__, h17q]) (by simp)
              · replace hF := ite_f h17 hF
                have h17_ := eqb_f h17
                have h17__ := neb_t h17
                by_cases h18 : v35 = 1
                · replace hF := ite_t h18 hF
                  have h18q : v35 = 1 := h18
                  have h18_ := eqb_t h18q
                  have h18__ := neb_f h18q
                  try simp [h2, h2_, h2__, h9, h9_, h9__, h11, h11_, h11__, h13, h13_, h13__, h15_, h15__, h15q, h17, h17_, h17__, h18_, h18__, h18q]
                  repeat' apply And.intro
                  any_goals (first | exact hG59 _ (by kernel_rfl) | refine hR59 _ _ _ ?_ | omega | (unfold maxLen; omega) | (simp [h2, h2_, h2__, h9, h9_, h9__, h11, h11_, h11__, h13, h13_, h13__, h15_, h15__, h15q, h17, h17_, h17__, h18_, h18__, h18q]; done) | (simp [h2, h2_, h2__, h9, h9_, h9__, h11, h11_, h11__, h13, h13_, h13__, h15_, h15__, h15q, h17, h17_, h17__, h18_, h18__, h18q]; omega))
                  refine hK48 _ _ _ ?_
                  refine Can.weak [(3, AV.ptr 1 0), (4, AV.ptr 2 0)] [(0, .cells [AV.lst false false (List.map (AV.int .i64) v0), AV.int .i64 v36]), (1, .cells [AV.lst false false (List.map (AV.int .i64) v2), AV.lst false true (List.map (AV.int .i64) ([64] : List Int)), AV.lst false false (List.map (AV.int .i64) v4), AV.int .i64 v5, AV.int .i64 v6, AV.int .i64 v7, AV.int .i64 v8]), (2, .cells [AV.lst true true (List.map (AV.int .i64) ([] : List Int)), AV.lst true true (List.map (AV.int .i64) ([] : List Int)), AV.lst true true (List.map (AV.int .i64) ([] : List Int)), AV.int .i64 0, AV.int .i64 0, AV.int .i64 0, AV.int .i64 0])] 3 (by simp [h2, h2_, h2__, h9, h9_, h9__, h11, h11_, h11__, h13, h13_, h13__, h15_, h15__, h15q, h17, h17_, h17__, h18_, h18__, h18q]) (by simp [h2, h2_, h2__, h9, h9_, h9__, h11, h11_, h11__, h13, h13_, h13__, h15_, h15__, h15q, h17, h17_, h17__, h18_, h18__, h18q]) (by simp) ?_
                  refine Can.flg [] [(1, .cells [AV.lst false false (List.map (AV.int .i64) v2), AV.lst false false (List.map (AV.int .i64) ([64] : List Int)), AV.lst false false (List.map (AV.int .i64) v4), AV.int .i64 v5, AV.int .i64 v6, AV.int .i64 v7, AV.int .i64 v8])] trivial ⟨⟨AObj.cells [AV.lst false false (List.map (AV.int .i64) v2), AV.lst false true (List.map (AV.int .i64) ([64] : List Int)), AV.lst false false (List.map (AV.int .i64) v4), AV.int .i64 v5, AV.int .i64 v6, AV.int .i64 v7, AV.int .i64 v8], by simp [h2, h2_, h2__, h9, h9_, h9__, h11, h11_, h11__, h13, h13_, h13__, h15_, h15__, h15q, h17, h17_, h17__, h18_, h18__, h18q], (.mk (.cons (.same _) (.cons (.lst (by simp)) (.cons (.same _) (.cons (.same _) (.cons (.same _) (.cons (.same _) (.cons (.same _) .nil))))))))⟩, trivial⟩ (by simp) ?_
                  exact Can.join ((v2, ([64] : List Int), v4, v5, v6, v7, v8, v36)) hF (by simp [h2, h2_, h2__, h9, h9_, h9__, h11, h11_, h11__, h13, h13_, h13__, h15_, h15__, h15q, h17, h17_, h17__, h18_, h18__, h18q]) (by simp [h2, h2_, h2__, h9, h9_, h9__, h11, h11_, h11__, h13, h13_, h13__, h15_, h15__, h15q, h17, h17_, h17__, h18_, h18__, h18q]) (by simp)
                · replace hF := ite_f h18 hF
                  have h18_ := eqb_f h18
                  have h18__ := neb_t h18
                  by_cases h19 : v35 = 2
                  · replace hF := ite_t h19 hF
                    have h19q : v35 = 2 := h19
                    have h19_ := eqb_t h19q
                    have h19__ := neb_f h19q
                    try simp [h2, h2_, h2__, h9, h9_, h9__, h11, h11_, h11__, h13, h13_, h13__, h15_, h15__, h15q, h17, h17_, h17__, h18, h18_, h18__, h19_, h19__, h19q]
                    repeat' apply And.intro
                    any_goals (first | exact hG59 _ (by kernel_rfl) | refine hR59 _ _ _ ?_ | omega | (unfold maxLen; omega) | (simp [h2, h2_, h2__, h9, h9_, h9__, h11, h11_, h11__, h13, h13_, h13__, h15_, h15__, h15q, h17, h17_, h17__, h18, h18_, h18__, h19_, h19__, h19q]; done) | (simp [h2, h2_, h2__, h9, h9_, h9__, h11, h11_, h11__, h13, h13_, h13__, h15_, h15__, h15q, h17, h17_, h17__, h18, h18_, h18__, h19_, h19__, h19q]; omega))
                    refine hK48 _ _ _ ?_
                    refine Can.weak [(3, AV.ptr 1 0), (4, AV.ptr 2 0)] [(0, .cells [AV.lst false false (List.map (AV.int .i64) v0), AV.int .i64 v36]), (1, .cells [AV.lst false false (List.map (AV.int .i64) v2), AV.lst false true (List.map (AV.int .i64) ([1, 0] : List Int)), AV.lst false false (List.map (AV.int .i64) v4), AV.int .i64 v5, AV.int .i64 v6, AV.int .i64 v7, AV.int .i64 v8]), (2, .cells [AV.lst true true (List.map (AV.int .i64) ([] : List Int)), AV.lst true true (List.map (AV.int .i64) ([] : List Int)), AV.lst true true (List.map (AV.int .i64) ([] : List Int)), AV.int .i64 0, AV.int .i64 0, AV.int .i64 0, AV.int .i64 0])] 3 (by simp [h2, h2_, h2__, h9, h9_, h9__, h11, h11_, h11__, h13, h13_, h13__, h15_, h15__, h15q, h17, h17_, h17__, h18, h18_, h18__, h19_, h19__, h19q]) (by simp [h2, h2_, h2__, h9, h9_, h9__, h11, h11_, h11__, h13, h13_, h13__, h15_, h15__, h15q, h17, h17_, h17__, h18, h18_, h18__, h19_, h19__, h19q]) (by simp) ?_
                    refine Can.flg [] [(1, .cells [AV.lst false false (List.map (AV.int .i64) v2), AV.lst false false (List.map (AV.int .i64) ([1, 0] : List Int)), AV.lst false false (List.map (AV.int .i64) v4), AV.int .i64 v5, AV.int .i64 v6, AV.int .i64 v7, AV.int .i64 v8])] trivial ⟨⟨AObj.cells [AV.lst false false (List.map (AV.int .i64) v2), AV.lst false true (List.map (AV.int .i64) ([1, 0] : List Int)), AV.lst false false (List.map (AV.int .i64) v4), AV.int .i64 v5, AV.int .i64 v6, AV.int .i64 v7, AV.int .i64 v8], by simp [h2, h2_, h2__, h9, h9_, h9__, h11, h11_, h11__, h13, h13_, h13__, h15_, h15__, h15q, h17, h17_, h17__, h18, h18_, h18__, h19_, h19__, h19q], (.mk (.cons (.same _) (.cons (.lst (by simp)) (.cons (.same _) (.cons (.same _) (.cons (.same _) (.cons (.same _) (.cons (.same _) .nil))))))))⟩, trivial⟩ (by simp) ?_
                    exact Can.join ((v2, ([1, 0] : List Int), v4, v5, v6, v7, v8, v36)) hF (by simp [h2, h2_, h2__, h9, h9_, h9__, h11, h11_, h11__, h13, h13_, h13__, h15_, h15__, h15q, h17, h17_, h17__, h18, h18_, h18__, h19_, h19__, h19q]) (by simp [h2, h2_, h2__, h9, h9_, h9__, h11, h11_, h11__, h13, h13_, h13__, h15_, h15__, h15q, h17, h17_, h17__, h18, h18_, h18__, h19_, h19__, h19q]) (by simp)
                  · replace hF := ite_f h19 hF
                    have h19_ := eqb_f h19
                    have h19__ := neb_t h19
                    cases hF
            · replace hF := ite_f h15 hF
              have h15_ := eqb_f h15
              have h15__ := neb_t h15
              refine AW.condF (by decide) (by first | (simp [h2, h2_, h2__, h9, h9_, h9__, h11, h11_, h11__, h13, h13_, h13__, h15, h15_, h15__]; done) | (simp [h2, h2_, h2__, h9, h9_, h9__, h11, h11_, h11__, h13, h13_, h13__, h15, h15_, h15__]; omega)) ?_
              refine AW.seqR mixed [] [none, none] (by kernel_rfl) fun G60 R60 hG60 hR60 => ?_
              try simp [h2, h2_, h2__, h9, h9_, h9__, h11, h11_, h11__, h13, h13_, h13__, h15, h15_, h15__]
              repeat' apply And.intro
              any_goals (first | exact hG60 _ (by kernel_rfl) | refine hR60 _ _ _ ?_ | omega | (unfold maxLen; omega) | (simp [h2, h2_, h2__, h9, h9_, h9__, h11, h11_, h11__, h13, h13_, h13__, h15, h15_, h15__]; done) | (simp [h2, h2_, h2__, h9, h9_, h9__, h11, h11_, h11__, h13, h13_, h13__, h15, h15_, h15__]; omega))
              refine AW.wk [(0, AV.ptr 0 0), (3, AV.ptr 1 0), (4, AV.ptr 2 0), (53, AV.bool (v25 == 5))] [(0, .cells [AV.lst false false (List.map (AV.int .i64) v0), AV.int .i64 v26]), (1, .cells [AV.lst false false (List.map (AV.int .i64) v2), AV.lst false false (List.map (AV.int .i64) v3), AV.lst false false (List.map (AV.int .i64) v4), AV.int .i64 v5, AV.int .i64 v6, AV.int .i64 v7, AV.int .i64 v8]), (2, .cells [AV.lst true true (List.map (AV.int .i64) ([] : List Int)), AV.lst true true (List.map (AV.int .i64) ([] : List Int)), AV.lst true true (List.map (AV.int .i64) ([] : List Int)), AV.int .i64 0, AV.int .i64 0, AV.int .i64 0, AV.int .i64 0])] 3 (by simp [h2, h2_, h2__, h9, h9_, h9__, h11, h11_, h11__, h13, h13_, h13__, h15, h15_, h15__]) (by simp [h2, h2_, h2__, h9, h9_, h9__, h11, h11_, h11__, h13, h13_, h13__, h15, h15_, h15__]) (by simp) ?_
              by_cases h20 : v25 = 5
              · replace hF := ite_t h20 hF
                have h20q : v25 = 5 := h20
                have h20_ := eqb_t h20q
                have h20__ := neb_f h20q
                refine AW.condT (by decide) (by first | (simp [h2, h2_, h2__, h9, h9_, h9__, h11, h11_, h11__, h13, h13_, h13__, h15, h15_, h15__, h20_, h20__, h20q]; done) | (simp [h2, h2_, h2__, h9, h9_, h9__, h11, h11_, h11__, h13, h13_, h13__, h15, h15_, h15__, h20_, h20__, h20q]; omega)) ?_
                refine AW.region mixed [] [none, none, none, none, none, none, none, none, none, none, none] (by kernel_rfl) fun G61 R61 hG61 hR61 => ?_
                try simp [h2, h2_, h2__, h9, h9_, h9__, h11, h11_, h11__, h13, h13_, h13__, h15, h15_, h15__, h20_, h20__, h20q]
                repeat' apply And.intro
                try any_goals (first | omega | (unfold maxLen; omega) | (simp [h2, h2_, h2__, h9, h9_, h9__, h11, h11_, h11__, h13, h13_, h13__, h15, h15_, h15__, h20_, h20__, h20q]; done))
                obtain ⟨v37, v38, h21, hF⟩ := bnd2_elim hF
                refine aCall_l (w_made_Dice_Next k _ _ _ _ _ h21) (by simp) [0] [] [0] rfl (.cons (.same (by simp [h2, h2_, h2__, h9, h9_, h9__, h11, h11_, h11__, h13, h13_, h13__, h15, h15_, h15__, h20_, h20__, h20q])) (.cons (.same (by simp [h2, h2_, h2__, h9, h9_, h9__, h11, h11_, h11__, h13, h13_, h13__, h15, h15_, h15__, h20_, h20__, h20q])) .nil)) (by simp [h2, h2_, h2__, h9, h9_, h9__, h11, h11_, h11__, h13, h13_, h13__, h15, h15_, h15__, h20_, h20__, h20q]) (by decide) (by simp) (by simp) (.inl rfl) (by simp) (by simp) ?_
                by_cases h22 : v37 = 0
                · replace hF := ite_t h22 hF
                  have h22q : v37 = 0 := h22
                  have h22_ := eqb_t h22q
                  have h22__ := neb_f h22q
                  try simp [h2, h2_, h2__, h9, h9_, h9__, h11, h11_, h11__, h13, h13_, h13__, h15, h15_, h15__, h20_, h20__, h20q, h22_, h22__, h22q]
                  repeat' apply And.intro
                  any_goals (first | exact hG61 _ (by kernel_rfl) | refine hR61 _ _ _ ?_ | omega | (unfold maxLen; omega) | (simp [h2, h2_, h2__, h9, h9_, h9__, h11, h11_, h11__, h13, h13_, h13__, h15, h15_, h15__, h20_, h20__, h20q, h22_, h22__, h22q]; done) | (simp [h2, h2_, h2__, h9, h9_, h9__, h11, h11_, h11__, h13, h13_, h13__, h15, h15_, h15__, h20_, h20__, h20q, h22_, h22__, h22q]; omega))
                  refine hK48 _ _ _ ?_
                  refine Can.weak [(3, AV.ptr 1 0), (4, AV.ptr 2 0)] [(0, .cells [AV.lst false false (List.map (AV.int .i64) v0), AV.int .i64 v38]), (1, .cells [AV.lst false false (List.map (AV.int .i64) v2), AV.lst false false (List.map (AV.int .i64) v3), AV.lst true true (List.map (AV.int .i64) ([] : List Int)), AV.int .i64 v5, AV.int .i64 v6, AV.int .i64 v7, AV.int .i64 v8]), (2, .cells [AV.lst true true (List.map (AV.int .i64) ([] : List Int)), AV.lst true true (List.map (AV.int .i64) ([] : List Int)), AV.lst true true (List.map (AV.int .i64) ([] : List Int)), AV.int .i64 0, AV.int .i64 0, AV.int .i64 0, AV.int .i64 0])] 3 (by simp [h2, h2_, h2__, h9, h9_, h9__, h11, h11_, h11__, h13, h13_, h13__, h15, h15_, h15__, h20_, h20__, h20q, h22_, h22__, h22q]) (by simp [h2, h2_, h2__, h9, h9_, h9__, h11, h11_, h11__, h13, h13_, h13__, h15, h15_, h15__, h20_, h20__, h20q, h22_, h22__, h22q]) (by simp) ?_
                  refine Can.flg [] [(1, .cells [AV.lst false false (List.map (AV.int .i64) v2), AV.lst false false (List.map (AV.int .i64) v3), AV.lst false false (List.map (AV.int .i64) ([] : List Int)), AV.int .i64 v5, AV.int .i64 v6, AV.int .i64 v7, AV.int .i64 v8])] trivial ⟨⟨AObj.cells [AV.lst false false (List.map (AV.int .i64) v2), AV.lst false false (List.map (AV.int .i64) v3), AV.lst true true (List.map (AV.int .i64) ([] : List Int)), AV.int .i64 v5, AV.int .i64 v6, AV.int .i64 v7, AV.int .i64 v8], by simp [h2, h2_, h2__, h9, h9_, h9__, h11, h11_, h11__, h13, h13_, h13__, h15, h15_, h15__, h20_, h20__, h20q, h22_, h22__, h22q], (.mk (.cons (.same _) (.cons (.same _) (.cons (.lst (by simp)) (.cons (.same _) (.cons (.same _) (.cons (.same _) (.cons (.same _) .nil))))))))⟩, trivial⟩ (by simp) ?_
                  exact Can.join ((v2, v3, ([] : List Int), v5, v6, v7, v8, v38)) hF (by simp [h2, h2_, h2__, h9, h9_, h9__, h11, h11_, h11__, h13, h13_, h13__, h15, h15_, h15__, h20_, h20__, h20q, h22_, h22__, h22q]) (by simp [h2, h2_, h2__, h9, h9_, h9__, h11, h11_, h11__, h13, h13_, h13__, h15, h15_, h15__, h20_, h20__, h20q, h22_, h22__, h22q]) (by simp)
                · replace hF := ite_f h22 hF
                  have h22_ := eqb_f h22
                  have h22__ := neb_t h22
                  by_cases h23 : v37 = 1
                  · replace hF := ite_t h23 hF
                    have h23q : v37 = 1 := h23
                    have h23_ := eqb_t h23q
                    have h23__ := neb_f h23q
                    try simp [h2, h2_, h2__, h9, h9_, h9__, h11, h11_, h11__, h13, h13_, h13__, h15, h15_, h15__, h20_, h20__, h20q, h22, h22_, h22__, h23_, h23__, h23q]
                    repeat' apply And.intro
                    any_goals (first | exact hG61 _ (by kernel_rfl) | refine hR61 _ _ _ ?_ | omega | (unfold maxLen; omega) | (simp [h2, h2_, h2__, h9, h9_, h9__, h11, h11_, h11__, h13, h13_, h13__, h15, h15_, h15__, h20_, h20__, h20q, h22, h22_, h22__, h23_, h23__, h23q]; done) | (simp [h2, h2_, h2__, h9, h9_, h9__, h11, h11_, h11__, h13, h13_, h13__, h15, h15_, h15__, h20_, h20__, h20q, h22, h22_, h22__, h23_, h23__, h23q]; omega))
                    refine hK48 _ _ _ ?_
                    refine Can.weak [(3, AV.ptr 1 0), (4, AV.ptr 2 0)] [(0, .cells [AV.lst false false (List.map (AV.int .i64) v0), AV.int .i64 v38]), (1, .cells [AV.lst false false (List.map (AV.int .i64) v2), AV.lst false false (List.map (AV.int .i64) v3), AV.lst false true (List.map (AV.int .i64) ([1, 2] : List Int)), AV.int .i64 v5, AV.int .i64 v6, AV.int .i64 v7, AV.int .i64 v8]), (2, .cells [AV.lst true true (List.map (AV.int .i64) ([] : List Int)), AV.lst true true (List.map (AV.int .i64) ([] : List Int)), AV.lst true true (List.map (AV.int .i64) ([] : List Int)), AV.int .i64 0, AV.int .i64 0, AV.int .i64 0, AV.int .i64 0])] 3 (by simp [h2, h2_, h2__, h9, h9_, h9__, h11, h11_, h11__, h13, h13_, h13__, h15, h15_, h15__, h20_, h20__, h20q, h22, h22_, h22__, h23_, h23__, h23q]) (by simp [h2, h2_, h2__, h9, h9_, h9__, h11, h11_, h11__, h13, h13_, h13__, h15, h15_, h15__, h20_, h20__, h20q, h22, h22_, h22__, h23_, h23__, h23q]) (by simp) ?_
                    refine Can.flg [] [(1, .cells [AV.lst false false (List.map (AV.int .i64) v2), AV.lst false false (List.map (AV.int .i64) v3), AV.lst false false (List.map (AV.int .i64) ([1, 2] : List Int)), AV.int .i64 v5, AV.int .i64 v6, AV.int .i64 v7, AV.int .i64 v8])] trivial ⟨⟨AObj.cells [AV.lst false false (List.map (AV.int .i64) v2), AV.lst false false (List.map (AV.int .i64) v3), AV.lst false true (List.map (AV.int .i64) ([1, 2] : List Int)), AV.int .i64 v5, AV.int .i64 v6, AV.int .i64 v7, AV.int .i64 v8], by simp [h2, h2_, h2__, h9, h9_, h9__, h11, h11_, h11__, h13, h13_, h13__, h15, h15_, h15__, h20_, h20__, h20q, h22, h22_, h22__, h23_, h23__, h23q], (.mk (.cons (.same _) (.cons (.same _) (.cons (.lst (by simp)) (.cons (.same _) (.cons (.same _) (.cons (.same _) (.cons (.same _) .nil))))))))⟩, trivial⟩ (by simp) ?_
                    exact Can.join ((v2, v3, ([1, 2] : List Int), v5, v6, v7, v8, v38)) hF (by simp [h2, h2_, h2__, h9, h9_, h9__, h11, h11_, h11__, h13, h13_, h13__, h15, h15_, h15__, h20_, h20__, h20q, h22, h22_, h22__, h23_, h23__, h23q]) (by simp [h2, h2_, h2__, h9, h9_, h9__, h11, h11_, h11__, h13, h13_, h13__, h15, h15_, h15__, h20_, h20__, h20q, h22, h22_, h22__, h23_, h23__, h23q]) (by simp)
                  · replace hF := ite_f h23 hF
                    have h23_ := eqb_f h23
                    have h23__ := neb_t h23
                    by_cases h24 : v37 = 2
                    · replace hF := ite_t h24 hF
                      have h24q : v37 = 2 := h24
                      have h24_ := eqb_t h24q
                      have h24__ := neb_f h24q
                      try simp [h2, h2_, h2__, h9, h9_, h9__, h11, h11_, h11__, h13, h13_, h13__, h15, h15_, h15__, h20_, h20__, h20q, h22, h22_, h22__, h23, h23_, h23__, h24_, h24__, h24q]
                      repeat' apply And.intro
                      any_goals (first | exact hG61 _ (by kernel_rfl) | refine hR61 _ _ _ ?_ | omega | (unfold maxLen; omega) | (simp [h2, h2_, h2__, h9, h9_, h9__, h11, h11_, h11__, h13, h13_, h13__, h15, h15_, h15__, h20_, h20__, h20q, h22, h22_, h22__, h23, h23_, h23__, h24_, h24__, h24q]; done) | (simp [h2, h2_, h2__, h9, h9_, h9__, h11, h11_, h11__, h13, h13_, h13__, h15, h15_, h15__, h20_, h20__, h20q, h22, h22_, h22__, h23, h23_, h23__, h24_, h24__, h24q]; omega))
                      refine hK48 _ _ _ ?_
                      refine Can.weak [(3, AV.ptr 1 0), (4, AV.ptr 2 0)] [(0, .cells [AV.lst false false (List.map (AV.int .i64) v0), AV.int .i64 v38]), (1, .cells [AV.lst false false (List.map (AV.int .i64) v2), AV.lst false false (List.map (AV.int .i64) v3), AV.lst false true (List.map (AV.int .i64) ([0] : List Int)), AV.int .i64 v5, AV.int .i64 v6, AV.int .i64 v7, AV.int .i64 v8]), (2, .cells [AV.lst true true (List.map (AV.int .i64) ([] : List Int)), AV.lst true true (List.map (AV.int .i64) ([] : List Int)), AV.lst true true (List.map (AV.int .i64) ([] : List Int)), AV.int .i64 0, AV.int .i64 0, AV.int .i64 0, AV.int .i64 0])] 3 (by simp [h2, h2_, h2__, h9, h9_, h9__, h11, h11_, h11__, h13, h13_, h13__, h15, h15_, h15__, h20_, h20__, h20q, h22, h22_, h22__, h23, h23_, h23__, h24_, h24__, h24q]) (by simp [h2, h2_, h2__, h9, h9_, h9__, h11, h11_, h11__, h13, h13_, h13__, h15, h15_, h15__, h20_, h20__, h20q, h22, h22_, h22__, h23, h23_, h23__, h24_, h24__, h24q]) (by simp) ?_
                      refine Can.flg [] [(1, .cells [AV.lst false false (List.map (AV.int .i64) v2), AV.lst false false (List.map (AV.int .i64) v3), AV.lst false false (List.map (AV.int .i64) ([0] : List Int)), AV.int .i64 v5, AV.int .i64 v6, AV.int .i64 v7, AV.int .i64 v8])] trivial ⟨⟨AObj.cells [AV.lst false false (List.map (AV.int .i64) v2), AV.lst false false (List.map (AV.int .i64) v3), AV.lst false true (List.map (AV.int .i64) ([0] : List Int)), AV.int .i64 v5, AV.int .i64 v6, AV.int .i64 v7, AV.int .i64 v8], by simp [h2, h2_, h2__, h9, h9_, h9__, h11, h11_, h11__, h13, h13_, h13__, h15, h15_, h15__, h20_, h20__, h20q, h22, h22_, h22__, h23, h23_, h23__, h24_, h24__, h24q], (.mk (.cons (.same _) (.cons (.same _) (.cons (.lst (by simp)) (.cons (.same _) (.cons (.same _) (.cons (.same _) (.cons (.same _) .nil))))))))⟩, trivial⟩ (by simp) ?_
                      exact Can.join ((v2, v3, ([0] : List Int), v5, v6, v7, v8, v38)) hF (by simp [h2, h2_, h2__, h9, h9_, h9__, h11, h11_, h11__, h13, h13_, h13__, h15, h15_, h15__, h20_, h20__, h20q, h22, h22_, h22__, h23, h23_, h23__, h24_, h24__, h24q]) (by simp [h2, h2_, h2__, h9, h9_, h9__, h11, h11_, h11__, h13, h13_, h13__, h15, h15_, h15__, h20_, h20__, h20q, h22, h22_, h22__, h23, h23_, h23__, h24_, h24__, h24q]) (by simp)
                    · replace hF := ite_f h24 hF
                      have h24_ := eqb_f h24
                      have h24__ := neb_t h24
                      by_cases h25 : v37 = 3
                      · replace hF := ite_t h25 hF
                        have h25q : v37 = 3 := h25
                        have h25_ := eqb_t h25q
                        have h25__ := neb_f h25q
                        try simp [h2, h2_, h2__, h9, h9_, h9__, h11, h11_, h11__, h13, h13_, h13__, h15, h15_, h15__, h20_, h20__, h20q, h22, h22_, h22__, h23, h23_, h23__, h24, h24_, h24__, h25_, h25__, h25q]
                        repeat' apply And.intro
                        any_goals (first | exact hG61 _ (by kernel_rfl) | refine hR61 _ _ _ ?_ | omega | (unfold maxLen; omega) | (simp [h2, h2_, h2__, h9, h9_, h9__, h11, h11_, h11__, h13, h13_, h13__, h15, h15_, h15__, h20_, h20__, h20q, h22, h22_, h22__, h23, h23_, h23__, h24, h24_, h24__, h25_, h25__, h25q]; done) | (simp [h2, h2_, h2__, h9, h9_, h9__, h11, h11_, h11__, h13, h13_, h13__, h15, h15_, h15__, h20_, h20__, h20q, h22, h22_, h22__, h23, h23_, h23__, h24, h24_, h24__, h25_, h25__, h25q]; omega))
                        refine hK48 _ _ _ ?_
                        refine Can.weak [(3, AV.ptr 1 0), (4, AV.ptr 2 0)] [(0, .cells [AV.lst false false (List.map (AV.int .i64) v0), AV.int .i64 v38]), (1, .cells [AV.lst false false (List.map (AV.int .i64) v2), AV.lst false false (List.map (AV.int .i64) v3), AV.lst false true (List.map (AV.int .i64) ([1001] : List Int)), AV.int .i64 v5, AV.int .i64 v6, AV.int .i64 v7, AV.int .i64 v8]), (2, .cells [AV.lst true true (List.map (AV.int .i64) ([] : List Int)), AV.lst true true (List.map (AV.int .i64) ([] : List Int)), AV.lst true true (List.map (AV.int .i64) ([] : List Int)), AV.int .i64 0, AV.int .i64 0, AV.int .i64 0, AV.int .i64 0])] 3 (by simp [h2, h2_, h2__, h9, h9_, h9__, h11, h11_, h11__, h13, h13_, h13__, h15, h15_, h15__, h20_, h20__, h20q, h22, h22_, h22__, h23, h23_, h23__, h24, h24_, h24__, h25_, h25__, h25q]) (by simp [h2, h2_, h2__, h9, h9_, h9__, h11, h11_, h11__, h13, h13_, h13__, h15, h15_, h15__, h20_, h20__, h20q, h22, h22_, h22__, h23, h23_, h23__, h24, h24_, h24__, h25_, h25__, h25q]) (by simp) ?_
                        refine Can.flg [] [(1, .cells [AV.lst false false (List.map (AV.int .i64) v2), AV.lst false false (List.map (AV.int .i64) v3), AV.lst false false (List.map (AV.int .i64) ([1001] : List Int)), AV.int .i64 v5, AV.int .i64 v6, AV.int .i64 v7, AV.int .i64 v8])] trivial ⟨⟨AObj.cells [AV.lst false false (List.map (AV.int .i64) v2), AV.lst false false (List.map (AV.int .i64) v3), AV.lst false true (List.map (AV.int .i64) ([1001] : List Int)), AV.int .i64 v5, AV.int .i64 v6, AV.int .i64 v7, AV.int .i64 v8], by simp [h2, h2_, h2__, h9, h9_, h9__, h11, h11_, h11__, h13, h13_, h13__, h15, h15_, h15__, h20_, h20__, h20q, h22, h22_, h22__, h23, h23_, h23__, h24, h24_, h24__, h25_, h25__, h25q], (.mk (.cons (.same _) (.cons (.same _) (.cons (.lst (by simp)) (.cons (.same _) (.cons (.same _) (.cons (.same _) (.cons (.same _) .nil))))))))⟩, trivial⟩ (by simp) ?_
                        exact Can.join ((v2, v3, ([1001] : List Int), v5, v6, v7, v8, v38)) hF (by simp [h2, h2_, h2__, h9, h9_, h9__, h11, h11_, h11__, h13, h13_, h13__, h15, h15_, h15__, h20_, h20__, h20q, h22, h22_, h22__, h23, h23_, h23__, h24, h24_, h24__, h25_, h25__, h25q]) (by simp [h2, h2_, h2__, h9, h9_, h9__, h11, h11_, h11__, h13, h13_, h13__, h15, h15_, h15__, h20_, h20__, h20q, h22, h22_, h22__, h23, h23_, h23__, h24, h24_, h24__, h25_, h25__, h25q]) (by simp)
                      · replace hF := ite_f h25 hF
                        have h25_ := eqb_f h25
                        have h25__ := neb_t h25
                        cases hF
              · replace hF := ite_f h20 hF
                have h20_ := eqb_f h20
                have h20__ := neb_t h20
                refine AW.condF (by decide) (by first | (simp [h2, h2_, h2__, h9, h9_, h9__, h11, h11_, h11__, h13, h13_, h13__, h15, h15_, h15__, h20, h20_, h20__]; done) | (simp [h2, h2_, h2__, h9, h9_, h9__, h11, h11_, h11__, h13, h13_, h13__, h15, h15_, h15__, h20, h20_, h20__]; omega)) ?_
                refine AW.region mixed [] [none, none, none, none, none, none] (by kernel_rfl) fun G62 R62 hG62 hR62 => ?_
                try simp [h2, h2_, h2__, h9, h9_, h9__, h11, h11_, h11__, h13, h13_, h13__, h15, h15_, h15__, h20, h20_, h20__]
                repeat' apply And.intro
                try any_goals (first | omega | (unfold maxLen; omega) | (simp [h2, h2_, h2__, h9, h9_, h9__, h11, h11_, h11__, h13, h13_, h13__, h15, h15_, h15__, h20, h20_, h20__]; done))
                obtain ⟨v39, v40, h26, hF⟩ := bnd2_elim hF
                refine aCall_l (w_made_Dice_Of k _ _ _ _ _ h26) (by simp) [0] [] [0] rfl (.cons (.same (by simp [h2, h2_, h2__, h9, h9_, h9__, h11, h11_, h11__, h13, h13_, h13__, h15, h15_, h15__, h20, h20_, h20__])) (.cons (Coe.fl (by simp [h2, h2_, h2__, h9, h9_, h9__, h11, h11_, h11__, h13, h13_, h13__, h15, h15_, h15__, h20, h20_, h20__])) .nil)) (by simp [h2, h2_, h2__, h9, h9_, h9__, h11, h11_, h11__, h13, h13_, h13__, h15, h15_, h15__, h20, h20_, h20__]) (by decide) (by simp) (by simp) (.inl rfl) (by simp) (by simp) ?_
                try simp [h2, h2_, h2__, h9, h9_, h9__, h11, h11_, h11__, h13, h13_, h13__, h15, h15_, h15__, h20, h20_, h20__]
                repeat' apply And.intro
                any_goals (first | exact hG62 _ (by kernel_rfl) | refine hR62 _ _ _ ?_ | omega | (unfold maxLen; omega) | (simp [h2, h2_, h2__, h9, h9_, h9__, h11, h11_, h11__, h13, h13_, h13__, h15, h15_, h15__, h20, h20_, h20__]; done) | (simp [h2, h2_, h2__, h9, h9_, h9__, h11, h11_, h11__, h13, h13_, h13__, h15, h15_, h15__, h20, h20_, h20__]; omega))
                refine hK48 _ _ _ ?_
                refine Can.weak [(3, AV.ptr 1 0), (4, AV.ptr 2 0)] [(0, .cells [AV.lst false false (List.map (AV.int .i64) v0), AV.int .i64 v40]), (1, .cells [AV.lst false false (List.map (AV.int .i64) v2), AV.lst false false (List.map (AV.int .i64) v3), AV.lst false false (List.map (AV.int .i64) v4), AV.int .i64 v39, AV.int .i64 v6, AV.int .i64 v7, AV.int .i64 v8]), (2, .cells [AV.lst true true (List.map (AV.int .i64) ([] : List Int)), AV.lst true true (List.map (AV.int .i64) ([] : List Int)), AV.lst true true (List.map (AV.int .i64) ([] : List Int)), AV.int .i64 0, AV.int .i64 0, AV.int .i64 0, AV.int .i64 0])] 3 (by simp [h2, h2_, h2__, h9, h9_, h9__, h11, h11_, h11__, h13, h13_, h13__, h15, h15_, h15__, h20, h20_, h20__]) (by simp [h2, h2_, h2__, h9, h9_, h9__, h11, h11_, h11__, h13, h13_, h13__, h15, h15_, h15__, h20, h20_, h20__]) (by simp) ?_
                exact Can.join ((v2, v3, v4, v39, v6, v7, v8, v40)) hF (by simp [h2, h2_, h2__, h9, h9_, h9__, h11, h11_, h11__, h13, h13_, h13__, h15, h15_, h15__, h20, h20_, h20__]) (by simp [h2, h2_, h2__, h9, h9_, h9__, h11, h11_, h11__, h13, h13_, h13__, h15, h15_, h15__, h20, h20_, h20__]) (by simp)
  · rintro ⟨v17, v18, v19, v20, v21, v22, v23, v24⟩ hF
    try dsimp only at hF
    unfold mill_Odd.J1 at hF
    refine AW.seqR mixed [] [none, none] (by kernel_rfl) fun G47 R47 hG47 hR47 => ?_
    try simp
    repeat' apply And.intro
    any_goals (first | exact hG47 _ (by kernel_rfl) | refine hR47 _ _ _ ?_ | omega | (unfold maxLen; omega) | (simp; done) | (simp; omega))
    refine AW.wk [(4, AV.ptr 2 0)] [(0, .cells [AV.lst false false (List.map (AV.int .i64) v0), AV.int .i64 v24]), (2, .cells [AV.lst false false (List.map (AV.int .i64) v17), AV.lst false false (List.map (AV.int .i64) v18), AV.lst false false (List.map (AV.int .i64) v19), AV.int .i64 v20, AV.int .i64 v21, AV.int .i64 v22, AV.int .i64 v23])] 3 (by simp) (by simp) (by simp) ?_
    refine AW.rnm (m := 1) h0 [(0, 0), (1, 2)] [(4, AV.ptr 1 0)] [(0, .cells [AV.lst false false (List.map (AV.int .i64) v0), AV.int .i64 v24]), (1, .cells [AV.lst false false (List.map (AV.int .i64) v17), AV.lst false false (List.map (AV.int .i64) v18), AV.lst false false (List.map (AV.int .i64) v19), AV.int .i64 v20, AV.int .i64 v21, AV.int .i64 v22, AV.int .i64 v23])] 2 (by decide) (by decide) (by decide) rfl (by simp) (by simp) ?_
    simp only [Option.some.injEq, Prod.mk.injEq] at hF
    obtain ⟨e0, e1, e2, e3, e4, e5, e6, e7⟩ := hF
    subst e0 e1 e2 e3 e4 e5 e6 e7
    refine AW.ret (hQ _ _ _ ?_ (matchO_0 ?_)).1
    · simp [Try.f51]
    · simp
end Go.TF
