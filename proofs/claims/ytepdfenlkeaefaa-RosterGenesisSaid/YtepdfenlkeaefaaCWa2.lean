/- Walks: the Go text computes the Lean functions (printed by a program of our own). -/
import Derived.Test.YtepdfenlkeaefaaCPu
import Derived.Test.YtepdfenlkeaefaaCAbsT
import Derived.Test.YtepdfenlkeaefaaCWa0
import Derived.Test.YtepdfenlkeaefaaCWa1
set_option linter.unusedVariables false
set_option linter.unusedSimpArgs false
set_option maxRecDepth 100000
namespace Go.TF
open Go Go.Abs Go.Proofs Go.Proofs.YtepdfenlkeaefaaCT
set_option maxHeartbeats 4000000 in
theorem w_ref23_SameInts (k : Nat) (v0 : (List Int)) (v1 : (List Int)) (v2 : Bool) (hF : ref23_SameInts k v0 v1 = some v2) :
    FCall Try.prog 32 [AV.lst false false (List.map (AV.int .i64) v0), AV.lst false false (List.map (AV.int .i64) v1)] [] (AV.bool v2) [] := by
  unfold ref23_SameInts at hF
  refine FCall.enter Try.func32 rfl (by simp) (by decide) (by simp) (by simp) (by simp) (by simp) (by simp) ?_
  intro c0 w0 Q h0 hQ
  refine AW.wk [(0, AV.lst false false (List.map (AV.int .i64) v0)), (1, AV.lst false false (List.map (AV.int .i64) v1))] [] 0 (by simp) (by simp) (by simp) ?_
  refine AW.seqR mixed [] [none] (by kernel_rfl) fun G85 R85 hG85 hR85 => ?_
  try simp
  repeat' apply And.intro
  any_goals (first | exact hG85 _ (by kernel_rfl) | refine hR85 _ _ _ ?_ | omega | (unfold maxLen; omega) | (simp; done) | (simp; omega))
  refine AW.wk [(0, AV.lst false false (List.map (AV.int .i64) v0)), (1, AV.lst false false (List.map (AV.int .i64) v1))] [] 0 (by simp) (by simp) (by simp) ?_
  refine AW.seq fun K88 hK88 => ?_
  refine AW.seqR mixed [] [none, none, none, none, none] (by kernel_rfl) fun G89 R89 hG89 hR89 => ?_
  try simp
  repeat' apply And.intro
  any_goals (first | exact hG89 _ (by kernel_rfl) | refine hR89 _ _ _ ?_ | omega | (unfold maxLen; omega) | (simp; done) | (simp; omega))
  refine AW.wk [(0, AV.lst false false (List.map (AV.int .i64) v0)), (1, AV.lst false false (List.map (AV.int .i64) v1)), (10, AV.bool ((v0.length : Int) != (v1.length : Int)))] [] 0 (by simp) (by simp) (by simp) ?_
  by_cases h1 : (v0.length : Int) ≠ (v1.length : Int)
  · replace hF := ite_t h1 hF
    have h1_ := eqb_f h1
    have h1__ := neb_t h1
    refine AW.condT (by decide) (by first | (simp [h1, h1_, h1__]; done) | (simp [h1, h1_, h1__]; omega)) ?_
    refine AW.seqR mixed [] [none] (by kernel_rfl) fun G90 R90 hG90 hR90 => ?_
    try simp [h1, h1_, h1__]
    repeat' apply And.intro
    any_goals (first | exact hG90 _ (by kernel_rfl) | refine hR90 _ _ _ ?_ | omega | (unfold maxLen; omega) | (simp [h1, h1_, h1__]; done) | (simp [h1, h1_, h1__]; omega))
    refine AW.wk [(4, AV.bool false)] [] 0 (by simp [h1, h1_, h1__]) (by simp [h1, h1_, h1__]) (by simp) ?_
    simp only [Option.some.injEq] at hF
    subst hF
    refine AW.ret (hQ _ _ _ ?_ (matchO_0 ?_)).1
    · simp [Try.f32, h1, h1_, h1__]
    · simp [h1, h1_, h1__]
  · replace hF := ite_f h1 hF
    have h1q : (v0.length : Int) = (v1.length : Int) := Classical.not_not.1 h1
    have h1_ := eqb_t h1q
    have h1__ := neb_f h1q
    refine AW.condF (by decide) (by first | (simp [h1_, h1__]; done) | (simp [h1_, h1__]; omega)) ?_
    refine AW.skip ?_
    refine hK88 _ _ _ ?_
    refine AW.seq fun K129 hK129 => ?_
    refine AW.seqR mixed [] [none] (by kernel_rfl) fun G130 R130 hG130 hR130 => ?_
    try simp [h1_, h1__]
    repeat' apply And.intro
    any_goals (first | exact hG130 _ (by kernel_rfl) | refine hR130 _ _ _ ?_ | omega | (unfold maxLen; omega) | (simp [h1_, h1__]; done) | (simp [h1_, h1__]; omega))
    refine AW.wk [(0, AV.lst false false (List.map (AV.int .i64) v0)), (1, AV.lst false false (List.map (AV.int .i64) v1)), (5, AV.int .i64 0)] [] 0 (by simp [h1_, h1__]) (by simp [h1_, h1__]) (by simp) ?_
    refine AW.block ?_
    refine AW.loopF (α := Int) (fun n v3 => ref23_SameInts.L1 k v0 v1 n v3 = some v2) (fun v3 => [(0, AV.lst false false (List.map (AV.int .i64) v0)), (1, AV.lst false false (List.map (AV.int .i64) v1)), (5, AV.int .i64 v3)]) (fun v3 => []) 0 k (0) hF (by simp [h1_, h1__]) (by simp [h1_, h1__]) (by simp) ?_
    rintro (_|n1) v3 hF K158 hK158
    · try dsimp only at hF
      rw [ref23_SameInts.L1] at hF; cases hF
    try dsimp only at hF
    rw [ref23_SameInts.L1] at hF
    refine AW.seq fun K160 hK160 => ?_
    refine AW.seqR mixed [] [none, none, none, none] (by kernel_rfl) fun G161 R161 hG161 hR161 => ?_
    try simp [h1_, h1__]
    repeat' apply And.intro
    any_goals (first | exact hG161 _ (by kernel_rfl) | refine hR161 _ _ _ ?_ | omega | (unfold maxLen; omega) | (simp [h1_, h1__]; done) | (simp [h1_, h1__]; omega))
    refine AW.wk [(0, AV.lst false false (List.map (AV.int .i64) v0)), (1, AV.lst false false (List.map (AV.int .i64) v1)), (5, AV.int .i64 v3), (14, AV.bool (decide (v3 < (v0.length : Int))))] [] 0 (by simp [h1_, h1__]) (by simp [h1_, h1__]) (by simp) ?_
    by_cases h2 : v3 < (v0.length : Int)
    · replace hF := ite_t h2 hF
      have h2_ := h2
      try simp at h2_
      refine AW.condT (by decide) (by first | (simp [h1_, h1__, h2, h2_]; done) | (simp [h1_, h1__, h2, h2_]; omega)) ?_
      refine AW.skip ?_
      refine hK160 _ _ _ ?_
      refine AW.seq fun K164 hK164 => ?_
      refine AW.block ?_
      refine AW.seqR mixed [] [none, none, none, none, none, none, none, none, none] (by kernel_rfl) fun G165 R165 hG165 hR165 => ?_
      obtain ⟨v4, h3, h4, h5, hF⟩ := idx_elim hF
      have h5_ := get_of h5
      try simp at h5_
      have h4_ := h4
      try simp at h4_
      obtain ⟨v5, h6, h7, h8, hF⟩ := idx_elim hF
      have h8_ := get_of h8
      try simp at h8_
      have h7_ := h7
      try simp at h7_
      try simp [h1_, h1__, h2, h2_, h3, h4, h5, h5_, h4_, h6, h7, h8, h8_, h7_]
      repeat' apply And.intro
      any_goals (first | exact hG165 _ (by kernel_rfl) | refine hR165 _ _ _ ?_ | omega | (unfold maxLen; omega) | (simp [h1_, h1__, h2, h2_, h3, h4, h5, h5_, h4_, h6, h7, h8, h8_, h7_]; done) | (simp [h1_, h1__, h2, h2_, h3, h4, h5, h5_, h4_, h6, h7, h8, h8_, h7_]; omega))
      refine AW.wk [(0, AV.lst false false (List.map (AV.int .i64) v0)), (1, AV.lst false false (List.map (AV.int .i64) v1)), (5, AV.int .i64 v3), (25, AV.bool (v4 != v5))] [] 0 (by simp [h1_, h1__, h2, h2_, h3, h4, h5, h5_, h4_, h6, h7, h8, h8_, h7_]) (by simp [h1_, h1__, h2, h2_, h3, h4, h5, h5_, h4_, h6, h7, h8, h8_, h7_]) (by simp) ?_
      by_cases h9 : v4 ≠ v5
      · replace hF := ite_t h9 hF
        have h9_ := eqb_f h9
        have h9__ := neb_t h9
        refine AW.condT (by decide) (by first | (simp [h1_, h1__, h2, h2_, h3, h4, h5, h5_, h4_, h6, h7, h8, h8_, h7_, h9, h9_, h9__]; done) | (simp [h1_, h1__, h2, h2_, h3, h4, h5, h5_, h4_, h6, h7, h8, h8_, h7_, h9, h9_, h9__]; omega)) ?_
        refine AW.seqR mixed [] [none] (by kernel_rfl) fun G166 R166 hG166 hR166 => ?_
        try simp [h1_, h1__, h2, h2_, h3, h4, h5, h5_, h4_, h6, h7, h8, h8_, h7_, h9, h9_, h9__]
        repeat' apply And.intro
        any_goals (first | exact hG166 _ (by kernel_rfl) | refine hR166 _ _ _ ?_ | omega | (unfold maxLen; omega) | (simp [h1_, h1__, h2, h2_, h3, h4, h5, h5_, h4_, h6, h7, h8, h8_, h7_, h9, h9_, h9__]; done) | (simp [h1_, h1__, h2, h2_, h3, h4, h5, h5_, h4_, h6, h7, h8, h8_, h7_, h9, h9_, h9__]; omega))
        refine AW.wk [(4, AV.bool false)] [] 0 (by simp [h1_, h1__, h2, h2_, h3, h4, h5, h5_, h4_, h6, h7, h8, h8_, h7_, h9, h9_, h9__]) (by simp [h1_, h1__, h2, h2_, h3, h4, h5, h5_, h4_, h6, h7, h8, h8_, h7_, h9, h9_, h9__]) (by simp) ?_
        simp only [Option.some.injEq] at hF
        subst hF
        refine AW.ret (hQ _ _ _ ?_ (matchO_0 ?_)).1
        · simp [Try.f32, h1_, h1__, h2, h2_, h3, h4, h5, h5_, h4_, h6, h7, h8, h8_, h7_, h9, h9_, h9__]
        · simp [h1_, h1__, h2, h2_, h3, h4, h5, h5_, h4_, h6, h7, h8, h8_, h7_, h9, h9_, h9__]
      · replace hF := ite_f h9 hF
        have h9q : v4 = v5 := Classical.not_not.1 h9
        have h9_ := eqb_t h9q
        have h9__ := neb_f h9q
        refine AW.condF (by decide) (by first | (simp [h1_, h1__, h2, h2_, h3, h4, h5, h5_, h4_, h6, h7, h8, h8_, h7_, h9_, h9__]; done) | (simp [h1_, h1__, h2, h2_, h3, h4, h5, h5_, h4_, h6, h7, h8, h8_, h7_, h9_, h9__]; omega)) ?_
        refine AW.skip ?_
        refine hK164 _ _ _ ?_
        refine AW.region mixed [] [none, none, none] (by kernel_rfl) fun G167 R167 hG167 hR167 => ?_
        try simp [h1_, h1__, h2, h2_, h3, h4, h5, h5_, h4_, h6, h7, h8, h8_, h7_, h9_, h9__]
        repeat' apply And.intro
        any_goals (first | exact hG167 _ (by kernel_rfl) | refine hR167 _ _ _ ?_ | omega | (unfold maxLen; omega) | (simp [h1_, h1__, h2, h2_, h3, h4, h5, h5_, h4_, h6, h7, h8, h8_, h7_, h9_, h9__]; done) | (simp [h1_, h1__, h2, h2_, h3, h4, h5, h5_, h4_, h6, h7, h8, h8_, h7_, h9_, h9__]; omega))
        refine hK158 _ _ _ ?_
        refine Can.weak [(0, AV.lst false false (List.map (AV.int .i64) v0)), (1, AV.lst false false (List.map (AV.int .i64) v1)), (5, AV.int .i64 (IntKind.wrap .i64 (v3 + 1)))] [] 0 (by simp [h1_, h1__, h2, h2_, h3, h4, h5, h5_, h4_, h6, h7, h8, h8_, h7_, h9_, h9__]) (by simp [h1_, h1__, h2, h2_, h3, h4, h5, h5_, h4_, h6, h7, h8, h8_, h7_, h9_, h9__]) (by simp) ?_
        exact Can.next (k' := n1) (IntKind.wrap .i64 (v3 + 1)) (by omega) hF (by simp [h1_, h1__, h2, h2_, h3, h4, h5, h5_, h4_, h6, h7, h8, h8_, h7_, h9_, h9__]) (by simp [h1_, h1__, h2, h2_, h3, h4, h5, h5_, h4_, h6, h7, h8, h8_, h7_, h9_, h9__]) (by simp)
    · replace hF := ite_f h2 hF
      have h2_ := h2
      try simp at h2_
      refine AW.condF (by decide) (by first | (simp [h1_, h1__, h2, h2_]; done) | (simp [h1_, h1__, h2, h2_]; omega)) ?_
      refine AW.exit ?_
      try simp
      refine hK129 _ _ _ ?_
      refine AW.seqR mixed [] [none] (by kernel_rfl) fun G168 R168 hG168 hR168 => ?_
      try simp [h1_, h1__, h2, h2_]
      repeat' apply And.intro
      any_goals (first | exact hG168 _ (by kernel_rfl) | refine hR168 _ _ _ ?_ | omega | (unfold maxLen; omega) | (simp [h1_, h1__, h2, h2_]; done) | (simp [h1_, h1__, h2, h2_]; omega))
      refine AW.wk [(4, AV.bool true)] [] 0 (by simp [h1_, h1__, h2, h2_]) (by simp [h1_, h1__, h2, h2_]) (by simp) ?_
      simp only [Option.some.injEq] at hF
      subst hF
      refine AW.ret (hQ _ _ _ ?_ (matchO_0 ?_)).1
      · simp [Try.f32, h1_, h1__, h2, h2_]
      · simp [h1_, h1__, h2, h2_]
set_option maxHeartbeats 4000000 in
theorem w_law24_awake (k : Nat) (v0 : Bool) (hF : law24_awake k = some v0) :
    FCall Try.prog 17 [] [] (AV.bool v0) [] := by
  unfold law24_awake at hF
  refine FCall.enter Try.func17 rfl (by simp) (by decide) (by simp) (by simp) (by simp) (by simp) (by simp) ?_
  intro c0 w0 Q h0 hQ
  refine AW.wk [] [] 0 (by simp) (by simp) (by simp) ?_
  refine AW.seqR mixed [] [none] (by kernel_rfl) fun G5 R5 hG5 hR5 => ?_
  try simp
  repeat' apply And.intro
  any_goals (first | exact hG5 _ (by kernel_rfl) | refine hR5 _ _ _ ?_ | omega | (unfold maxLen; omega) | (simp; done) | (simp; omega))
  refine AW.wk [] [] 0 (by simp) (by simp) (by simp) ?_
  refine AW.seqR mixed [] [none, none, none, none, none, none, none] (by kernel_rfl) fun G6 R6 hG6 hR6 => ?_
  try simp
  repeat' apply And.intro
  try any_goals (first | omega | (unfold maxLen; omega) | (simp; done))
  obtain ⟨v1, v2, h1, hF⟩ := bnd2_elim hF
  refine aCall_l (w_roster_Encode k _ _ _ h1) (by simp) [] [] [] rfl (.cons (Coe.fl (by simp)) .nil) (by simp) (by decide) (by simp) (by simp) (.inl rfl) (by simp) (by simp) ?_
  try simp
  repeat' apply And.intro
  any_goals (first | exact hG6 _ (by kernel_rfl) | refine hR6 _ _ _ ?_ | omega | (unfold maxLen; omega) | (simp; done) | (simp; omega))
  refine AW.wk [(1, AV.lst false false (List.map (AV.int .i64) v1)), (2, AV.int .i64 v2)] [] 0 (by simp) (by simp) (by simp) ?_
  refine AW.seqR mixed [] [none, none, none, none, none, none, none] (by kernel_rfl) fun G7 R7 hG7 hR7 => ?_
  try simp
  repeat' apply And.intro
  try any_goals (first | omega | (unfold maxLen; omega) | (simp; done))
  obtain ⟨v3, v4, h2, hF⟩ := bnd2_elim hF
  refine aCall_l (w_roster_Decode k _ _ _ h2) (by simp) [] [] [] rfl (.cons (.same (by simp)) .nil) (by simp) (by decide) (by simp) (by simp) (.inl rfl) (by simp) (by simp) ?_
  try simp
  repeat' apply And.intro
  any_goals (first | exact hG7 _ (by kernel_rfl) | refine hR7 _ _ _ ?_ | omega | (unfold maxLen; omega) | (simp; done) | (simp; omega))
  refine AW.wk [(1, AV.lst false false (List.map (AV.int .i64) v1)), (2, AV.int .i64 v2), (3, AV.slc 0 0 1 v3.length false), (4, AV.int .i64 v4)] [(0, .grow (List.map (AV.int .i64) v3))] 1 (by simp) (by simp) (by simp) ?_
  refine AW.frz 0 (o := .grow (List.map (AV.int .i64) v3)) (by simp) rfl [(3, AV.lst false false (List.map (AV.int .i64) v3))] [] ⟨(.l (by simp) (by simp) (by simp) (by simp)), trivial⟩ trivial ?_
  refine AW.wk [(1, AV.lst false false (List.map (AV.int .i64) v1)), (2, AV.int .i64 v2), (3, AV.lst false false (List.map (AV.int .i64) v3)), (4, AV.int .i64 v4)] [] 1 (by simp) (by simp) (by simp) ?_
  refine AW.seqR mixed [] [none, none, none, some (17, true), some (17, true), none, none, some (21, true), some (21, true), some (21, true), none, none, some (26, true), some (26, true), some (26, true), none, none] (by kernel_rfl) fun G8 R8 hG8 hR8 => ?_
  by_cases h3 : v2 = 0
  · replace hF := ite_t h3 hF
    have h3q : v2 = 0 := h3
    have h3_ := eqb_t h3q
    have h3__ := neb_f h3q
    by_cases h4 : v4 = 0
    · replace hF := ite_t h4 hF
      have h4q : v4 = 0 := h4
      have h4_ := eqb_t h4q
      have h4__ := neb_f h4q
      try simp [h3_, h3__, h3q, h4_, h4__, h4q]
      repeat' apply And.intro
      try any_goals (first | omega | (unfold maxLen; omega) | (simp [h3_, h3__, h3q, h4_, h4__, h4q]; done))
      obtain ⟨v5, h5, hF⟩ := bnd1_elim hF
      refine aCall_l (w_ref23_SameInts k _ _ _ h5) (by simp) [] [] [] rfl (.cons (.same (by simp [h3_, h3__, h3q, h4_, h4__, h4q])) (.cons (Coe.fl (by simp [h3_, h3__, h3q, h4_, h4__, h4q])) .nil)) (by simp [h3_, h3__, h3q, h4_, h4__, h4q]) (by decide) (by simp) (by simp) (.inl rfl) (by simp) (by simp) ?_
      by_cases h6 : v5 = true
      · replace hF := ite_t h6 hF
        have h6_ := h6
        try simp at h6_
        try simp [h3_, h3__, h3q, h4_, h4__, h4q, h6, h6_]
        repeat' apply And.intro
        try any_goals (first | omega | (unfold maxLen; omega) | (simp [h3_, h3__, h3q, h4_, h4__, h4q, h6, h6_]; done))
        obtain ⟨v6, h7, hF⟩ := bnd1_elim hF
        refine aCall_l (w_ref23_SameInts k _ _ _ h7) (by simp) [] [] [] rfl (.cons (.same (by simp [h3_, h3__, h3q, h4_, h4__, h4q, h6, h6_])) (.cons (Coe.fl (by simp [h3_, h3__, h3q, h4_, h4__, h4q, h6, h6_])) .nil)) (by simp [h3_, h3__, h3q, h4_, h4__, h4q, h6, h6_]) (by decide) (by simp) (by simp) (.inl rfl) (by simp) (by simp) ?_
        try simp [h3_, h3__, h3q, h4_, h4__, h4q, h6, h6_]
        repeat' apply And.intro
        any_goals (first | exact hG8 _ (by kernel_rfl) | refine hR8 _ _ _ ?_ | omega | (unfold maxLen; omega) | (simp [h3_, h3__, h3q, h4_, h4__, h4q, h6, h6_]; done) | (simp [h3_, h3__, h3q, h4_, h4__, h4q, h6, h6_]; omega))
        refine AW.wk [(0, AV.bool v6)] [] 1 (by simp [h3_, h3__, h3q, h4_, h4__, h4q, h6, h6_]) (by simp [h3_, h3__, h3q, h4_, h4__, h4q, h6, h6_]) (by simp) ?_
        simp only [Option.some.injEq] at hF
        subst hF
        refine AW.ret (hQ _ _ _ ?_ (matchO_0 ?_)).1
        · simp [Try.f17, h3_, h3__, h3q, h4_, h4__, h4q, h6, h6_]
        · simp [h3_, h3__, h3q, h4_, h4__, h4q, h6, h6_]
      · replace hF := ite_f h6 hF
        have h6_ := h6
        try simp at h6_
        try simp [h3_, h3__, h3q, h4_, h4__, h4q, h6, h6_]
        repeat' apply And.intro
        any_goals (first | exact hG8 _ (by kernel_rfl) | refine hR8 _ _ _ ?_ | omega | (unfold maxLen; omega) | (simp [h3_, h3__, h3q, h4_, h4__, h4q, h6, h6_]; done) | (simp [h3_, h3__, h3q, h4_, h4__, h4q, h6, h6_]; omega))
        refine AW.wk [(0, AV.bool false)] [] 1 (by simp [h3_, h3__, h3q, h4_, h4__, h4q, h6, h6_]) (by simp [h3_, h3__, h3q, h4_, h4__, h4q, h6, h6_]) (by simp) ?_
        simp only [Option.some.injEq] at hF
        subst hF
        refine AW.ret (hQ _ _ _ ?_ (matchO_0 ?_)).1
        · simp [Try.f17, h3_, h3__, h3q, h4_, h4__, h4q, h6, h6_]
        · simp [h3_, h3__, h3q, h4_, h4__, h4q, h6, h6_]
    · replace hF := ite_f h4 hF
      have h4_ := eqb_f h4
      have h4__ := neb_t h4
      try simp [h3_, h3__, h3q, h4, h4_, h4__]
      repeat' apply And.intro
      any_goals (first | exact hG8 _ (by kernel_rfl) | refine hR8 _ _ _ ?_ | omega | (unfold maxLen; omega) | (simp [h3_, h3__, h3q, h4, h4_, h4__]; done) | (simp [h3_, h3__, h3q, h4, h4_, h4__]; omega))
      refine AW.wk [(0, AV.bool false)] [] 1 (by simp [h3_, h3__, h3q, h4, h4_, h4__]) (by simp [h3_, h3__, h3q, h4, h4_, h4__]) (by simp) ?_
      simp only [Option.some.injEq] at hF
      subst hF
      refine AW.ret (hQ _ _ _ ?_ (matchO_0 ?_)).1
      · simp [Try.f17, h3_, h3__, h3q, h4, h4_, h4__]
      · simp [h3_, h3__, h3q, h4, h4_, h4__]
  · replace hF := ite_f h3 hF
    have h3_ := eqb_f h3
    have h3__ := neb_t h3
    try simp [h3, h3_, h3__]
    repeat' apply And.intro
    any_goals (first | exact hG8 _ (by kernel_rfl) | refine hR8 _ _ _ ?_ | omega | (unfold maxLen; omega) | (simp [h3, h3_, h3__]; done) | (simp [h3, h3_, h3__]; omega))
    refine AW.wk [(0, AV.bool false)] [] 1 (by simp [h3, h3_, h3__]) (by simp [h3, h3_, h3__]) (by simp) ?_
    simp only [Option.some.injEq] at hF
    subst hF
    refine AW.ret (hQ _ _ _ ?_ (matchO_0 ?_)).1
    · simp [Try.f17, h3, h3_, h3__]
    · simp [h3, h3_, h3__]
set_option maxHeartbeats 4000000 in
theorem w_made_Roll (k : Nat) (v0 : (List Int)) (v1 : (List Int)) (v2 : Int) (hF : made_Roll k v0 = some (v1, v2)) :
    FCall Try.prog 64 [AV.lst false false (List.map (AV.int .i64) v0)] [] (AV.ptr 0 0) [some (.cells [AV.lst false false (List.map (AV.int .i64) v1), AV.int .i64 v2])] := by
  unfold made_Roll at hF
  refine FCall.enter Try.func64 rfl (by simp) (by decide) (by simp) (by simp) (by simp) (by simp) (by simp) ?_
  intro c0 w0 Q h0 hQ
  refine AW.wk [(0, AV.lst false false (List.map (AV.int .i64) v0))] [] 0 (by simp) (by simp) (by simp) ?_
  refine AW.seqR mixed [] [none] (by kernel_rfl) fun G3 R3 hG3 hR3 => ?_
  try simp
  repeat' apply And.intro
  any_goals (first | exact hG3 _ (by kernel_rfl) | refine hR3 _ _ _ ?_ | omega | (unfold maxLen; omega) | (simp; done) | (simp; omega))
  refine AW.wk [(0, AV.lst false false (List.map (AV.int .i64) v0))] [] 0 (by simp) (by simp) (by simp) ?_
  refine AW.seqR mixed [] [none, none, none, none] (by kernel_rfl) fun G4 R4 hG4 hR4 => ?_
  try simp
  repeat' apply And.intro
  any_goals (first | exact hG4 _ (by kernel_rfl) | refine hR4 _ _ _ ?_ | omega | (unfold maxLen; omega) | (simp; done) | (simp; omega))
  refine AW.wk [(2, AV.ptr 0 0)] [(0, .cells [AV.lst false false (List.map (AV.int .i64) v0), AV.int .i64 0])] 1 (by simp) (by simp) (by simp) ?_
  simp only [Option.some.injEq, Prod.mk.injEq] at hF
  obtain ⟨e0, e1⟩ := hF
  subst e0 e1
  refine AW.ret (hQ _ _ _ ?_ (matchO_0 ?_)).1
  · simp [Try.f64]
  · simp
set_option maxHeartbeats 4000000 in
theorem w_mill_Roll (k : Nat) (v0 : (List Int)) (v1 : (List Int)) (v2 : Int) (hF : mill_Roll k v0 = some (v1, v2)) :
    FCall Try.prog 18 [AV.lst false false (List.map (AV.int .i64) v0)] [] (AV.ptr 0 0) [some (.cells [AV.lst false false (List.map (AV.int .i64) v1), AV.int .i64 v2])] := by
  unfold mill_Roll at hF
  refine FCall.enter Try.func18 rfl (by simp) (by decide) (by simp) (by simp) (by simp) (by simp) (by simp) ?_
  intro c0 w0 Q h0 hQ
  refine AW.wk [(0, AV.lst false false (List.map (AV.int .i64) v0))] [] 0 (by simp) (by simp) (by simp) ?_
  refine AW.seqR mixed [] [none] (by kernel_rfl) fun G3 R3 hG3 hR3 => ?_
  try simp
  repeat' apply And.intro
  any_goals (first | exact hG3 _ (by kernel_rfl) | refine hR3 _ _ _ ?_ | omega | (unfold maxLen; omega) | (simp; done) | (simp; omega))
  refine AW.wk [(0, AV.lst false false (List.map (AV.int .i64) v0))] [] 0 (by simp) (by simp) (by simp) ?_
  refine AW.seqR mixed [] [none, none, none] (by kernel_rfl) fun G4 R4 hG4 hR4 => ?_
  try simp
  repeat' apply And.intro
  try any_goals (first | omega | (unfold maxLen; omega) | (simp; done))
  obtain ⟨v3, v4, h1, hF⟩ := bnd2_elim hF
  refine aCall_l (w_made_Roll k _ _ _ h1) (by simp) [] [] [] rfl (.cons (.same (by simp)) .nil) (by simp) (by decide) (by simp) (by simp) (.inl rfl) (by simp) (by simp) ?_
  try simp
  repeat' apply And.intro
  any_goals (first | exact hG4 _ (by kernel_rfl) | refine hR4 _ _ _ ?_ | omega | (unfold maxLen; omega) | (simp; done) | (simp; omega))
  refine AW.wk [(2, AV.ptr 0 0)] [(0, .cells [AV.lst false false (List.map (AV.int .i64) v3), AV.int .i64 v4])] 1 (by simp) (by simp) (by simp) ?_
  simp only [Option.some.injEq, Prod.mk.injEq] at hF
  obtain ⟨e0, e1⟩ := hF
  subst e0 e1
  refine AW.ret (hQ _ _ _ ?_ (matchO_0 ?_)).1
  · simp [Try.f18]
  · simp
set_option maxHeartbeats 4000000 in
theorem w_made_Mod (k : Nat) (v0 : Int) (v1 : Int) (v2 : Int) (hF : made_Mod k v0 v1 = some v2) :
    FCall Try.prog 12 [AV.int .i64 v0, AV.int .i64 v1] [] (AV.int .i64 v2) [] := by
  unfold made_Mod at hF
  refine FCall.enter Try.func12 rfl (by simp) (by decide) (by simp) (by simp) (by simp) (by simp) (by simp) ?_
  intro c0 w0 Q h0 hQ
  refine AW.wk [(0, AV.int .i64 v0), (1, AV.int .i64 v1)] [] 0 (by simp) (by simp) (by simp) ?_
  refine AW.seqR mixed [] [none] (by kernel_rfl) fun G14 R14 hG14 hR14 => ?_
  try simp
  repeat' apply And.intro
  any_goals (first | exact hG14 _ (by kernel_rfl) | refine hR14 _ _ _ ?_ | omega | (unfold maxLen; omega) | (simp; done) | (simp; omega))
  refine AW.wk [(0, AV.int .i64 v0), (1, AV.int .i64 v1)] [] 0 (by simp) (by simp) (by simp) ?_
  refine AW.seq fun K17 hK17 => ?_
  refine AW.seqR mixed [] [none, none] (by kernel_rfl) fun G18 R18 hG18 hR18 => ?_
  try simp
  repeat' apply And.intro
  any_goals (first | exact hG18 _ (by kernel_rfl) | refine hR18 _ _ _ ?_ | omega | (unfold maxLen; omega) | (simp; done) | (simp; omega))
  refine AW.wk [(0, AV.int .i64 v0), (1, AV.int .i64 v1), (6, AV.bool (decide (v1 < 1)))] [] 0 (by simp) (by simp) (by simp) ?_
  by_cases h1 : v1 < 1
  · replace hF := ite_t h1 hF
    have h1_ := h1
    try simp at h1_
    refine AW.condT (by decide) (by first | (simp [h1, h1_]; done) | (simp [h1, h1_]; omega)) ?_
    refine AW.seqR mixed [] [none] (by kernel_rfl) fun G19 R19 hG19 hR19 => ?_
    try simp [h1, h1_]
    repeat' apply And.intro
    any_goals (first | exact hG19 _ (by kernel_rfl) | refine hR19 _ _ _ ?_ | omega | (unfold maxLen; omega) | (simp [h1, h1_]; done) | (simp [h1, h1_]; omega))
    refine AW.wk [(4, AV.int .i64 0)] [] 0 (by simp [h1, h1_]) (by simp [h1, h1_]) (by simp) ?_
    simp only [Option.some.injEq] at hF
    subst hF
    refine AW.ret (hQ _ _ _ ?_ (matchO_0 ?_)).1
    · simp [Try.f12, h1, h1_]
    · simp [h1, h1_]
  · replace hF := ite_f h1 hF
    have h1_ := h1
    try simp at h1_
    refine AW.condF (by decide) (by first | (simp [h1, h1_]; done) | (simp [h1, h1_]; omega)) ?_
    refine AW.skip ?_
    refine hK17 _ _ _ ?_
    refine AW.seqR mixed [] [none, none, none, none] (by kernel_rfl) fun G20 R20 hG20 hR20 => ?_
    obtain ⟨h2, hF⟩ := chk_elim hF
    have h2_ := h2
    try simp at h2_
    try simp [h1, h1_, h2, h2_]
    repeat' apply And.intro
    any_goals (first | exact hG20 _ (by kernel_rfl) | refine hR20 _ _ _ ?_ | omega | (unfold maxLen; omega) | (simp [h1, h1_, h2, h2_]; done) | (simp [h1, h1_, h2, h2_]; omega))
    refine AW.wk [(0, AV.int .i64 (Int.tmod v0 v1)), (1, AV.int .i64 v1)] [] 0 (by simp [h1, h1_, h2, h2_]) (by simp [h1, h1_, h2, h2_]) (by simp) ?_
    refine AW.midF (α := Int) (fun v3 => made_Mod.J1 k v3 = some v2) (fun v3 => [(0, AV.int .i64 v3)]) (fun v3 => []) 0 (fun K24 hK24 => ?_) ?_
    · refine AW.seqR mixed [] [none, none] (by kernel_rfl) fun G25 R25 hG25 hR25 => ?_
      try simp [h1, h1_, h2, h2_]
      repeat' apply And.intro
      any_goals (first | exact hG25 _ (by kernel_rfl) | refine hR25 _ _ _ ?_ | omega | (unfold maxLen; omega) | (simp [h1, h1_, h2, h2_]; done) | (simp [h1, h1_, h2, h2_]; omega))
      refine AW.wk [(0, AV.int .i64 (Int.tmod v0 v1)), (1, AV.int .i64 v1), (11, AV.bool (decide (Int.tmod v0 v1 < 0)))] [] 0 (by simp [h1, h1_, h2, h2_]) (by simp [h1, h1_, h2, h2_]) (by simp) ?_
      by_cases h3 : Int.tmod v0 v1 < 0
      · replace hF := ite_t h3 hF
        have h3_ := h3
        try simp at h3_
        refine AW.condT (by decide) (by first | (simp [h1, h1_, h2, h2_, h3, h3_]; done) | (simp [h1, h1_, h2, h2_, h3, h3_]; omega)) ?_
        refine AW.region mixed [] [none, none, none, none] (by kernel_rfl) fun G26 R26 hG26 hR26 => ?_
        try simp [h1, h1_, h2, h2_, h3, h3_]
        repeat' apply And.intro
        any_goals (first | exact hG26 _ (by kernel_rfl) | refine hR26 _ _ _ ?_ | omega | (unfold maxLen; omega) | (simp [h1, h1_, h2, h2_, h3, h3_]; done) | (simp [h1, h1_, h2, h2_, h3, h3_]; omega))
        refine hK24 _ _ _ ?_
        refine Can.weak [(0, AV.int .i64 (IntKind.wrap .i64 (Int.tmod v0 v1 + v1)))] [] 0 (by simp [h1, h1_, h2, h2_, h3, h3_]) (by simp [h1, h1_, h2, h2_, h3, h3_]) (by simp) ?_
        exact Can.join (IntKind.wrap .i64 (Int.tmod v0 v1 + v1)) hF (by simp [h1, h1_, h2, h2_, h3, h3_]) (by simp [h1, h1_, h2, h2_, h3, h3_]) (by simp)
      · replace hF := ite_f h3 hF
        have h3_ := h3
        try simp at h3_
        refine AW.condF (by decide) (by first | (simp [h1, h1_, h2, h2_, h3, h3_]; done) | (simp [h1, h1_, h2, h2_, h3, h3_]; omega)) ?_
        refine AW.skip ?_
        refine hK24 _ _ _ ?_
        exact Can.join (Int.tmod v0 v1) hF (by simp [h1, h1_, h2, h2_, h3, h3_]) (by simp [h1, h1_, h2, h2_, h3, h3_]) (by simp)
    · rintro v3 hF
      try dsimp only at hF
      unfold made_Mod.J1 at hF
      refine AW.seqR mixed [] [none, none] (by kernel_rfl) fun G23 R23 hG23 hR23 => ?_
      try simp [h1, h1_, h2, h2_]
      repeat' apply And.intro
      any_goals (first | exact hG23 _ (by kernel_rfl) | refine hR23 _ _ _ ?_ | omega | (unfold maxLen; omega) | (simp [h1, h1_, h2, h2_]; done) | (simp [h1, h1_, h2, h2_]; omega))
      refine AW.wk [(4, AV.int .i64 v3)] [] 0 (by simp [h1, h1_, h2, h2_]) (by simp [h1, h1_, h2, h2_]) (by simp) ?_
      simp only [Option.some.injEq] at hF
      subst hF
      refine AW.ret (hQ _ _ _ ?_ (matchO_0 ?_)).1
      · simp [Try.f12, h1, h1_, h2, h2_]
      · simp [h1, h1_, h2, h2_]
set_option maxHeartbeats 4000000 in
theorem w_made_Dice_Next (k : Nat) (v0 : (List Int)) (v1 : Int) (v2 : Int) (v3 : Int) (v4 : Int) (hF : made_Dice_Next k v0 v1 v2 = some (v3, v4)) :
    FCall Try.prog 22 [AV.ptr 0 0, AV.int .i64 v2] [.cells [AV.lst false false (List.map (AV.int .i64) v0), AV.int .i64 v1]] (AV.int .i64 v3) [some (.cells [AV.lst false false (List.map (AV.int .i64) v0), AV.int .i64 v4])] := by
  unfold made_Dice_Next at hF
  refine FCall.enter Try.func22 rfl (by simp) (by decide) (by simp) (by simp) (by simp) (by simp) (by simp) ?_
  intro c0 w0 Q h0 hQ
  refine AW.wk [(0, AV.ptr 0 0), (1, AV.int .i64 v2)] [(0, .cells [AV.lst false false (List.map (AV.int .i64) v0), AV.int .i64 v1])] 1 (by simp) (by simp) (by simp) ?_
  refine AW.seqR mixed [] [none] (by kernel_rfl) fun G9 R9 hG9 hR9 => ?_
  try simp
  repeat' apply And.intro
  any_goals (first | exact hG9 _ (by kernel_rfl) | refine hR9 _ _ _ ?_ | omega | (unfold maxLen; omega) | (simp; done) | (simp; omega))
  refine AW.wk [(0, AV.ptr 0 0), (1, AV.int .i64 v2)] [(0, .cells [AV.lst false false (List.map (AV.int .i64) v0), AV.int .i64 v1])] 1 (by simp) (by simp) (by simp) ?_
  refine AW.seq fun K12 hK12 => ?_
  refine AW.seqR mixed [] [none, none, none, none, none, none, none, none, none, none] (by kernel_rfl) fun G13 R13 hG13 hR13 => ?_
  try simp
  repeat' apply And.intro
  any_goals (first | exact hG13 _ (by kernel_rfl) | refine hR13 _ _ _ ?_ | omega | (unfold maxLen; omega) | (simp; done) | (simp; omega))
  refine AW.wk [(0, AV.ptr 0 0), (1, AV.int .i64 v2), (14, AV.bool (decide ((v0.length : Int) ≤ v1)))] [(0, .cells [AV.lst false false (List.map (AV.int .i64) v0), AV.int .i64 v1])] 1 (by simp) (by simp) (by simp) ?_
  by_cases h1 : (v0.length : Int) ≤ v1
  · replace hF := ite_t h1 hF
    have h1_ := h1
    try simp at h1_
    refine AW.condT (by decide) (by first | (simp [h1, h1_]; done) | (simp [h1, h1_]; omega)) ?_
    refine AW.seqR mixed [] [none] (by kernel_rfl) fun G14 R14 hG14 hR14 => ?_
    try simp [h1, h1_]
    repeat' apply And.intro
    any_goals (first | exact hG14 _ (by kernel_rfl) | refine hR14 _ _ _ ?_ | omega | (unfold maxLen; omega) | (simp [h1, h1_]; done) | (simp [h1, h1_]; omega))
    refine AW.wk [(4, AV.int .i64 0)] [(0, .cells [AV.lst false false (List.map (AV.int .i64) v0), AV.int .i64 v1])] 1 (by simp [h1, h1_]) (by simp [h1, h1_]) (by simp) ?_
    simp only [Option.some.injEq, Prod.mk.injEq] at hF
    obtain ⟨e0, e1⟩ := hF
    subst e0 e1
    refine AW.ret (hQ _ _ _ ?_ (matchO_0 ?_)).1
    · simp [Try.f22, h1, h1_]
    · simp [h1, h1_]
  · replace hF := ite_f h1 hF
    have h1_ := h1
    try simp at h1_
    refine AW.condF (by decide) (by first | (simp [h1, h1_]; done) | (simp [h1, h1_]; omega)) ?_
    refine AW.skip ?_
    refine hK12 _ _ _ ?_
    refine AW.seqR mixed [] [none, none, none, none, none, none, none, none] (by kernel_rfl) fun G15 R15 hG15 hR15 => ?_
    try simp [h1, h1_]
    repeat' apply And.intro
    any_goals (first | exact hG15 _ (by kernel_rfl) | refine hR15 _ _ _ ?_ | omega | (unfold maxLen; omega) | (simp [h1, h1_]; done) | (simp [h1, h1_]; omega))
    refine AW.wk [(0, AV.ptr 0 0), (1, AV.int .i64 v2)] [(0, .cells [AV.lst false false (List.map (AV.int .i64) v0), AV.int .i64 (IntKind.wrap .i64 (v1 + 1))])] 1 (by simp [h1, h1_]) (by simp [h1, h1_]) (by simp) ?_
    refine AW.seqR mixed [] [none, none, none, none, none, none, none, none, none, none, none, none, none, none] (by kernel_rfl) fun G16 R16 hG16 hR16 => ?_
    obtain ⟨v5, h2, h3, h4, hF⟩ := idx_elim hF
    have h4_ := get_of h4
    try simp at h4_
    have h3_ := h3
    try simp at h3_
    try simp [h1, h1_, h2, h3, h4, h4_, h3_]
    repeat' apply And.intro
    try any_goals (first | omega | (unfold maxLen; omega) | (simp [h1, h1_, h2, h3, h4, h4_, h3_]; done))
    obtain ⟨v6, h5, hF⟩ := bnd1_elim hF
    refine aCall_l (w_made_Mod k _ _ _ h5) (by simp) [] [] [] rfl (.cons (.same (by simp [h1, h1_, h2, h3, h4, h4_, h3_])) (.cons (.same (by simp [h1, h1_, h2, h3, h4, h4_, h3_])) .nil)) (by simp [h1, h1_, h2, h3, h4, h4_, h3_]) (by decide) (by simp) (by simp) (.inl rfl) (by simp) (by simp) ?_
    try simp [h1, h1_, h2, h3, h4, h4_, h3_]
    repeat' apply And.intro
    any_goals (first | exact hG16 _ (by kernel_rfl) | refine hR16 _ _ _ ?_ | omega | (unfold maxLen; omega) | (simp [h1, h1_, h2, h3, h4, h4_, h3_]; done) | (simp [h1, h1_, h2, h3, h4, h4_, h3_]; omega))
    refine AW.wk [(4, AV.int .i64 v6)] [(0, .cells [AV.lst false false (List.map (AV.int .i64) v0), AV.int .i64 (IntKind.wrap .i64 (v1 + 1))])] 1 (by simp [h1, h1_, h2, h3, h4, h4_, h3_]) (by simp [h1, h1_, h2, h3, h4, h4_, h3_]) (by simp) ?_
    simp only [Option.some.injEq, Prod.mk.injEq] at hF
    obtain ⟨e0, e1⟩ := hF
    subst e0 e1
    refine AW.ret (hQ _ _ _ ?_ (matchO_0 ?_)).1
    · simp [Try.f22, h1, h1_, h2, h3, h4, h4_, h3_]
    · simp [h1, h1_, h2, h3, h4, h4_, h3_]
set_option maxHeartbeats 4000000 in
theorem w_made_Dice_Of (k : Nat) (v0 : (List Int)) (v1 : Int) (v2 : (List Int)) (v3 : Int) (v4 : Int) (hF : made_Dice_Of k v0 v1 v2 = some (v3, v4)) :
    FCall Try.prog 65 [AV.ptr 0 0, AV.lst false false (List.map (AV.int .i64) v2)] [.cells [AV.lst false false (List.map (AV.int .i64) v0), AV.int .i64 v1]] (AV.int .i64 v3) [some (.cells [AV.lst false false (List.map (AV.int .i64) v0), AV.int .i64 v4])] := by
  unfold made_Dice_Of at hF
  refine FCall.enter Try.func65 rfl (by simp) (by decide) (by simp) (by simp) (by simp) (by simp) (by simp) ?_
  intro c0 w0 Q h0 hQ
  refine AW.wk [(0, AV.ptr 0 0), (1, AV.lst false false (List.map (AV.int .i64) v2))] [(0, .cells [AV.lst false false (List.map (AV.int .i64) v0), AV.int .i64 v1])] 1 (by simp) (by simp) (by simp) ?_
  refine AW.seqR mixed [] [none] (by kernel_rfl) fun G3 R3 hG3 hR3 => ?_
  try simp
  repeat' apply And.intro
  any_goals (first | exact hG3 _ (by kernel_rfl) | refine hR3 _ _ _ ?_ | omega | (unfold maxLen; omega) | (simp; done) | (simp; omega))
  refine AW.wk [(0, AV.ptr 0 0), (1, AV.lst false false (List.map (AV.int .i64) v2))] [(0, .cells [AV.lst false false (List.map (AV.int .i64) v0), AV.int .i64 v1])] 1 (by simp) (by simp) (by simp) ?_
  refine AW.seqR mixed [] [none, none, none, none, none, none, none, none] (by kernel_rfl) fun G4 R4 hG4 hR4 => ?_
  try simp
  repeat' apply And.intro
  try any_goals (first | omega | (unfold maxLen; omega) | (simp; done))
  obtain ⟨v5, v6, h1, hF⟩ := bnd2_elim hF
  refine aCall_l (w_made_Dice_Next k _ _ _ _ _ h1) (by simp) [0] [] [0] rfl (.cons (.same (by simp)) (.cons (.same (by simp)) .nil)) (by simp) (by decide) (by simp) (by simp) (.inl rfl) (by simp) (by simp) ?_
  obtain ⟨v7, h2, h3, h4, hF⟩ := idx_elim hF
  have h4_ := get_of h4
  try simp at h4_
  have h3_ := h3
  try simp at h3_
  try simp [h2, h3, h4, h4_, h3_]
  repeat' apply And.intro
  any_goals (first | exact hG4 _ (by kernel_rfl) | refine hR4 _ _ _ ?_ | omega | (unfold maxLen; omega) | (simp [h2, h3, h4, h4_, h3_]; done) | (simp [h2, h3, h4, h4_, h3_]; omega))
  refine AW.wk [(4, AV.int .i64 v7)] [(0, .cells [AV.lst false false (List.map (AV.int .i64) v0), AV.int .i64 v6])] 1 (by simp [h2, h3, h4, h4_, h3_]) (by simp [h2, h3, h4, h4_, h3_]) (by simp) ?_
  simp only [Option.some.injEq, Prod.mk.injEq] at hF
  obtain ⟨e0, e1⟩ := hF
  subst e0 e1
  refine AW.ret (hQ _ _ _ ?_ (matchO_0 ?_)).1
  · simp [Try.f65, h2, h3, h4, h4_, h3_]
  · simp [h2, h3, h4, h4_, h3_]
set_option maxHeartbeats 4000000 in
theorem w_made_Dice_One (k : Nat) (v0 : (List Int)) (v1 : Int) (v2 : Int) (v3 : Bool) (v4 : Int) (hF : made_Dice_One k v0 v1 v2 = some (v3, v4)) :
    FCall Try.prog 66 [AV.ptr 0 0, AV.int .i64 v2] [.cells [AV.lst false false (List.map (AV.int .i64) v0), AV.int .i64 v1]] (AV.bool v3) [some (.cells [AV.lst false false (List.map (AV.int .i64) v0), AV.int .i64 v4])] := by
  unfold made_Dice_One at hF
  refine FCall.enter Try.func66 rfl (by simp) (by decide) (by simp) (by simp) (by simp) (by simp) (by simp) ?_
  intro c0 w0 Q h0 hQ
  refine AW.wk [(0, AV.ptr 0 0), (1, AV.int .i64 v2)] [(0, .cells [AV.lst false false (List.map (AV.int .i64) v0), AV.int .i64 v1])] 1 (by simp) (by simp) (by simp) ?_
  refine AW.seqR mixed [] [none] (by kernel_rfl) fun G3 R3 hG3 hR3 => ?_
  try simp
  repeat' apply And.intro
  any_goals (first | exact hG3 _ (by kernel_rfl) | refine hR3 _ _ _ ?_ | omega | (unfold maxLen; omega) | (simp; done) | (simp; omega))
  refine AW.wk [(0, AV.ptr 0 0), (1, AV.int .i64 v2)] [(0, .cells [AV.lst false false (List.map (AV.int .i64) v0), AV.int .i64 v1])] 1 (by simp) (by simp) (by simp) ?_
  refine AW.seqR mixed [] [none, none, none, none, none, none, none] (by kernel_rfl) fun G4 R4 hG4 hR4 => ?_
  try simp
  repeat' apply And.intro
  try any_goals (first | omega | (unfold maxLen; omega) | (simp; done))
  obtain ⟨v5, v6, h1, hF⟩ := bnd2_elim hF
  refine aCall_l (w_made_Dice_Next k _ _ _ _ _ h1) (by simp) [0] [] [0] rfl (.cons (.same (by simp)) (.cons (.same (by simp)) .nil)) (by simp) (by decide) (by simp) (by simp) (.inl rfl) (by simp) (by simp) ?_
  try simp
  repeat' apply And.intro
  any_goals (first | exact hG4 _ (by kernel_rfl) | refine hR4 _ _ _ ?_ | omega | (unfold maxLen; omega) | (simp; done) | (simp; omega))
  refine AW.wk [(4, AV.bool (v5 == (IntKind.wrap .i64 (v2 - 1))))] [(0, .cells [AV.lst false false (List.map (AV.int .i64) v0), AV.int .i64 v6])] 1 (by simp) (by simp) (by simp) ?_
  simp only [Option.some.injEq, Prod.mk.injEq] at hF
  obtain ⟨e0, e1⟩ := hF
  subst e0 e1
  refine AW.ret (hQ _ _ _ ?_ (matchO_0 ?_)).1
  · simp [Try.f66]
  · simp
set_option maxHeartbeats 4000000 in
theorem w_mill_Rules (k : Nat) (v0 : (List Int)) (v1 : Int) (v2 : (List Int)) (v3 : (List Int)) (v4 : (List Int)) (v5 : Int) (v6 : Int) (v7 : Int) (v8 : Int) (v9 : Int) (hF : mill_Rules k v0 v1 = some (v2, v3, v4, v5, v6, v7, v8, v9)) :
    FCall Try.prog 19 [AV.ptr 0 0] [.cells [AV.lst false false (List.map (AV.int .i64) v0), AV.int .i64 v1]] (AV.agg [AV.lst false false (List.map (AV.int .i64) v2), AV.lst false false (List.map (AV.int .i64) v3), AV.slc 1 0 1 v4.length false, AV.int .i64 v5, AV.int .i64 v6, AV.int .i64 v7, AV.int .i64 v8]) [some (.cells [AV.lst false false (List.map (AV.int .i64) v0), AV.int .i64 v9]), some (.cells (List.map (AV.int .i64) v4))] := by
  unfold mill_Rules at hF
  refine FCall.enter Try.func19 rfl (by simp) (by decide) (by simp) (by simp) (by simp) (by simp) (by simp) ?_
  intro c0 w0 Q h0 hQ
  refine AW.wk [(0, AV.ptr 0 0)] [(0, .cells [AV.lst false false (List.map (AV.int .i64) v0), AV.int .i64 v1])] 1 (by simp) (by simp) (by simp) ?_
  refine AW.seqR mixed [] [none] (by kernel_rfl) fun G12 R12 hG12 hR12 => ?_
  try simp
  repeat' apply And.intro
  any_goals (first | exact hG12 _ (by kernel_rfl) | refine hR12 _ _ _ ?_ | omega | (unfold maxLen; omega) | (simp; done) | (simp; omega))
  refine AW.wk [(0, AV.ptr 0 0), (2, AV.ptr 1 0)] [(0, .cells [AV.lst false false (List.map (AV.int .i64) v0), AV.int .i64 v1]), (1, .cells [AV.lst true true (List.map (AV.int .i64) ([] : List Int)), AV.lst true true (List.map (AV.int .i64) ([] : List Int)), AV.lst true true (List.map (AV.int .i64) ([] : List Int)), AV.int .i64 0, AV.int .i64 0, AV.int .i64 0, AV.int .i64 0])] 2 (by simp) (by simp) (by simp) ?_
  refine AW.seqR mixed [] [none, none, none, none, none, none, none, none, none, none, none, none] (by kernel_rfl) fun G13 R13 hG13 hR13 => ?_
  try simp
  repeat' apply And.intro
  try any_goals (first | omega | (unfold maxLen; omega) | (simp; done))
  obtain ⟨v10, v11, h1, hF⟩ := bnd2_elim hF
  refine aCall_l (w_made_Dice_Of k _ _ _ _ _ h1) (by simp) [0] [] [0] rfl (.cons (.same (by simp)) (.cons (Coe.fl (by simp)) .nil)) (by simp) (by decide) (by simp) (by simp) (.inl rfl) (by simp) (by simp) ?_
  try simp
  repeat' apply And.intro
  try any_goals (first | omega | (unfold maxLen; omega) | (simp; done))
  obtain ⟨v12, v13, h2, hF⟩ := bnd2_elim hF
  refine aCall_l (w_made_Dice_Of k _ _ _ _ _ h2) (by simp) [0] [] [0] rfl (.cons (.same (by simp)) (.cons (Coe.fl (by simp)) .nil)) (by simp) (by decide) (by simp) (by simp) (.inl rfl) (by simp) (by simp) ?_
  try simp
  repeat' apply And.intro
  try any_goals (first | omega | (unfold maxLen; omega) | (simp; done))
  obtain ⟨v14, v15, h3, hF⟩ := bnd2_elim hF
  refine aCall_l (w_made_Dice_Of k _ _ _ _ _ h3) (by simp) [0] [] [0] rfl (.cons (.same (by simp)) (.cons (Coe.fl (by simp)) .nil)) (by simp) (by decide) (by simp) (by simp) (.inl rfl) (by simp) (by simp) ?_
  try simp
  repeat' apply And.intro
  any_goals (first | exact hG13 _ (by kernel_rfl) | refine hR13 _ _ _ ?_ | omega | (unfold maxLen; omega) | (simp; done) | (simp; omega))
  refine AW.wk [(0, AV.ptr 0 0), (2, AV.ptr 1 0), (3, AV.ptr 2 0)] [(0, .cells [AV.lst false false (List.map (AV.int .i64) v0), AV.int .i64 v15]), (1, .cells [AV.lst true true (List.map (AV.int .i64) ([] : List Int)), AV.lst true true (List.map (AV.int .i64) ([] : List Int)), AV.lst true true (List.map (AV.int .i64) ([] : List Int)), AV.int .i64 0, AV.int .i64 0, AV.int .i64 0, AV.int .i64 0]), (2, .cells [AV.lst true true (List.map (AV.int .i64) ([] : List Int)), AV.lst true true (List.map (AV.int .i64) ([] : List Int)), AV.lst true true (List.map (AV.int .i64) ([] : List Int)), AV.int .i64 0, AV.int .i64 v10, AV.int .i64 v12, AV.int .i64 v14])] 3 (by simp) (by simp) (by simp) ?_
  refine AW.seqR mixed [] [none, none, none, none, none, none, none] (by kernel_rfl) fun G14 R14 hG14 hR14 => ?_
  try simp
  repeat' apply And.intro
  try any_goals (first | omega | (unfold maxLen; omega) | (simp; done))
  obtain ⟨v16, v17, h4, hF⟩ := bnd2_elim hF
  refine aCall_l (w_made_Dice_Next k _ _ _ _ _ h4) (by simp) [0] [] [0] rfl (.cons (.same (by simp)) (.cons (.same (by simp)) .nil)) (by simp) (by decide) (by simp) (by simp) (.inl rfl) (by simp) (by simp) ?_
  obtain ⟨⟨h5, h6⟩, hF⟩ := chk_elim hF
  have h5_ := h5
  try simp at h5_
  have h6_ := h6
  try simp at h6_
  try simp [h5, h6, h5_, h6_]
  repeat' apply And.intro
  any_goals (first | exact hG14 _ (by kernel_rfl) | refine hR14 _ _ _ ?_ | omega | (unfold maxLen; omega) | (simp [h5, h6, h5_, h6_]; done) | (simp [h5, h6, h5_, h6_]; omega))
  refine AW.wk [(0, AV.ptr 0 0), (2, AV.ptr 1 0), (3, AV.ptr 2 0)] [(0, .cells [AV.lst false false (List.map (AV.int .i64) v0), AV.int .i64 v17]), (1, .cells [AV.lst true true (List.map (AV.int .i64) ([] : List Int)), AV.lst true true (List.map (AV.int .i64) ([] : List Int)), AV.lst true true (List.map (AV.int .i64) ([] : List Int)), AV.int .i64 0, AV.int .i64 0, AV.int .i64 0, AV.int .i64 0]), (2, .cells [AV.lst false false (List.map (AV.int .i64) (([0, 1, 2, 3, 4, 5, 6] : List Int).take (IntKind.wrap .i64 (2 + v16)).toNat)), AV.lst true true (List.map (AV.int .i64) ([] : List Int)), AV.lst true true (List.map (AV.int .i64) ([] : List Int)), AV.int .i64 0, AV.int .i64 v10, AV.int .i64 v12, AV.int .i64 v14])] 3 (by simp [h5, h6, h5_, h6_]) (by simp [h5, h6, h5_, h6_]) (by simp) ?_
  refine AW.seqR mixed [29] [none, none, none, none, none, none, none, none, none, none, none, none, none, none, none, none] (by kernel_rfl) fun G15 R15 hG15 hR15 => ?_
  try simp [h5, h6, h5_, h6_]
  repeat' apply And.intro
  try any_goals (first | omega | (unfold maxLen; omega) | (simp [h5, h6, h5_, h6_]; done))
  obtain ⟨v18, v19, h7, hF⟩ := bnd2_elim hF
  refine aCall_l (w_made_Dice_Of k _ _ _ _ _ h7) (by simp) [0] [] [0] rfl (.cons (.same (by simp [h5, h6, h5_, h6_])) (.cons (Coe.fl (by simp [h5, h6, h5_, h6_])) .nil)) (by simp [h5, h6, h5_, h6_]) (by decide) (by simp) (by simp) (.inl rfl) (by simp) (by simp) ?_
  try simp [h5, h6, h5_, h6_]
  repeat' apply And.intro
  try any_goals (first | omega | (unfold maxLen; omega) | (simp [h5, h6, h5_, h6_]; done))
  obtain ⟨v20, v21, h8, hF⟩ := bnd2_elim hF
  refine aCall_l (w_made_Dice_Of k _ _ _ _ _ h8) (by simp) [0] [] [0] rfl (.cons (.same (by simp [h5, h6, h5_, h6_])) (.cons (Coe.fl (by simp [h5, h6, h5_, h6_])) .nil)) (by simp [h5, h6, h5_, h6_]) (by decide) (by simp) (by simp) (.inl rfl) (by simp) (by simp) ?_
  try simp [h5, h6, h5_, h6_]
  repeat' apply And.intro
  try any_goals (first | omega | (unfold maxLen; omega) | (simp [h5, h6, h5_, h6_]; done))
  obtain ⟨v22, v23, h9, hF⟩ := bnd2_elim hF
  refine aCall_l (w_made_Dice_Of k _ _ _ _ _ h9) (by simp) [0] [] [0] rfl (.cons (.same (by simp [h5, h6, h5_, h6_])) (.cons (Coe.fl (by simp [h5, h6, h5_, h6_])) .nil)) (by simp [h5, h6, h5_, h6_]) (by decide) (by simp) (by simp) (.inl rfl) (by simp) (by simp) ?_
  try simp [h5, h6, h5_, h6_]
  repeat' apply And.intro
  any_goals (first | exact hG15 _ (by kernel_rfl) | refine hR15 _ _ _ ?_ | omega | (unfold maxLen; omega) | (simp [h5, h6, h5_, h6_]; done) | (simp [h5, h6, h5_, h6_]; omega))
  refine AW.wk [(0, AV.ptr 0 0), (2, AV.ptr 1 0), (3, AV.ptr 2 0)] [(0, .cells [AV.lst false false (List.map (AV.int .i64) v0), AV.int .i64 v23]), (1, .cells [AV.lst true true (List.map (AV.int .i64) ([] : List Int)), AV.lst true true (List.map (AV.int .i64) ([] : List Int)), AV.lst true true (List.map (AV.int .i64) ([] : List Int)), AV.int .i64 0, AV.int .i64 0, AV.int .i64 0, AV.int .i64 0]), (2, .cells [AV.lst false false (List.map (AV.int .i64) (([0, 1, 2, 3, 4, 5, 6] : List Int).take (IntKind.wrap .i64 (2 + v16)).toNat)), AV.lst false true (List.map (AV.int .i64) ([0] : List Int)), AV.slc 3 0 1 (([IntKind.wrap .i64 (1 + v18), IntKind.wrap .i64 (1 + v20)] : List Int).length) true, AV.int .i64 v22, AV.int .i64 v10, AV.int .i64 v12, AV.int .i64 v14]), (3, .cells (List.map (AV.int .i64) ([IntKind.wrap .i64 (1 + v18), IntKind.wrap .i64 (1 + v20)] : List Int)))] 4 (by simp [h5, h6, h5_, h6_]) (by simp [h5, h6, h5_, h6_]) (by simp) ?_
  refine AW.midF (α := ((List Int) × Int)) (fun (v24, v25) => mill_Rules.J1 k v10 v12 v14 v16 v18 v20 v22 v24 v25 = some (v2, v3, v4, v5, v6, v7, v8, v9)) (fun (v24, v25) => [(2, AV.ptr 1 0), (3, AV.ptr 2 0)]) (fun (v24, v25) => [(0, .cells [AV.lst false false (List.map (AV.int .i64) v0), AV.int .i64 v25]), (1, .cells [AV.lst true true (List.map (AV.int .i64) ([] : List Int)), AV.lst true true (List.map (AV.int .i64) ([] : List Int)), AV.lst true true (List.map (AV.int .i64) ([] : List Int)), AV.int .i64 0, AV.int .i64 0, AV.int .i64 0, AV.int .i64 0]), (2, .cells [AV.lst false false (List.map (AV.int .i64) (([0, 1, 2, 3, 4, 5, 6] : List Int).take (IntKind.wrap .i64 (2 + v16)).toNat)), AV.lst false false (List.map (AV.int .i64) v24), AV.slc 3 0 1 (([IntKind.wrap .i64 (1 + v18), IntKind.wrap .i64 (1 + v20)] : List Int).length) true, AV.int .i64 v22, AV.int .i64 v10, AV.int .i64 v12, AV.int .i64 v14]), (3, .cells (List.map (AV.int .i64) ([IntKind.wrap .i64 (1 + v18), IntKind.wrap .i64 (1 + v20)] : List Int)))]) 4 (fun K20 hK20 => ?_) ?_
  · refine AW.seqR mixed [] [none, none] (by kernel_rfl) fun G21 R21 hG21 hR21 => ?_
    try simp [h5, h6, h5_, h6_]
    repeat' apply And.intro
    try any_goals (first | omega | (unfold maxLen; omega) | (simp [h5, h6, h5_, h6_]; done))
    obtain ⟨v29, v30, h23, hF⟩ := bnd2_elim hF
    refine aCall_l (w_made_Dice_One k _ _ _ _ _ h23) (by simp) [0] [] [0] rfl (.cons (.same (by simp [h5, h6, h5_, h6_])) (.cons (.same (by simp [h5, h6, h5_, h6_])) .nil)) (by simp [h5, h6, h5_, h6_]) (by decide) (by simp) (by simp) (.inl rfl) (by simp) (by simp) ?_
    try simp [h5, h6, h5_, h6_]
    repeat' apply And.intro
    any_goals (first | exact hG21 _ (by kernel_rfl) | refine hR21 _ _ _ ?_ | omega | (unfold maxLen; omega) | (simp [h5, h6, h5_, h6_]; done) | (simp [h5, h6, h5_, h6_]; omega))
    refine AW.wk [(2, AV.ptr 1 0), (3, AV.ptr 2 0), (36, AV.bool v29)] [(0, .cells [AV.lst false false (List.map (AV.int .i64) v0), AV.int .i64 v30]), (1, .cells [AV.lst true true (List.map (AV.int .i64) ([] : List Int)), AV.lst true true (List.map (AV.int .i64) ([] : List Int)), AV.lst true true (List.map (AV.int .i64) ([] : List Int)), AV.int .i64 0, AV.int .i64 0, AV.int .i64 0, AV.int .i64 0]), (2, .cells [AV.lst false false (List.map (AV.int .i64) (([0, 1, 2, 3, 4, 5, 6] : List Int).take (IntKind.wrap .i64 (2 + v16)).toNat)), AV.lst false true (List.map (AV.int .i64) ([0] : List Int)), AV.slc 3 0 1 (([IntKind.wrap .i64 (1 + v18), IntKind.wrap .i64 (1 + v20)] : List Int).length) true, AV.int .i64 v22, AV.int .i64 v10, AV.int .i64 v12, AV.int .i64 v14]), (3, .cells (List.map (AV.int .i64) ([IntKind.wrap .i64 (1 + v18), IntKind.wrap .i64 (1 + v20)] : List Int)))] 4 (by simp [h5, h6, h5_, h6_]) (by simp [h5, h6, h5_, h6_]) (by simp) ?_
    by_cases h24 : v29 = true
    · replace hF := ite_t h24 hF
      have h24_ := h24
      try simp at h24_
      refine AW.condT (by decide) (by first | (simp [h5, h6, h5_, h6_, h24, h24_]; done) | (simp [h5, h6, h5_, h6_, h24, h24_]; omega)) ?_
      refine AW.region mixed [] [none, none, none, none] (by kernel_rfl) fun G22 R22 hG22 hR22 => ?_
      try simp [h5, h6, h5_, h6_, h24, h24_]
      repeat' apply And.intro
      any_goals (first | exact hG22 _ (by kernel_rfl) | refine hR22 _ _ _ ?_ | omega | (unfold maxLen; omega) | (simp [h5, h6, h5_, h6_, h24, h24_]; done) | (simp [h5, h6, h5_, h6_, h24, h24_]; omega))
      refine hK20 _ _ _ ?_
      refine Can.weak [(2, AV.ptr 1 0), (3, AV.ptr 2 0)] [(0, .cells [AV.lst false false (List.map (AV.int .i64) v0), AV.int .i64 v30]), (1, .cells [AV.lst true true (List.map (AV.int .i64) ([] : List Int)), AV.lst true true (List.map (AV.int .i64) ([] : List Int)), AV.lst true true (List.map (AV.int .i64) ([] : List Int)), AV.int .i64 0, AV.int .i64 0, AV.int .i64 0, AV.int .i64 0]), (2, .cells [AV.lst false false (List.map (AV.int .i64) (([0, 1, 2, 3, 4, 5, 6] : List Int).take (IntKind.wrap .i64 (2 + v16)).toNat)), AV.lst false true (List.map (AV.int .i64) ([0, 1] : List Int)), AV.slc 3 0 1 (([IntKind.wrap .i64 (1 + v18), IntKind.wrap .i64 (1 + v20)] : List Int).length) true, AV.int .i64 v22, AV.int .i64 v10, AV.int .i64 v12, AV.int .i64 v14]), (3, .cells (List.map (AV.int .i64) ([IntKind.wrap .i64 (1 + v18), IntKind.wrap .i64 (1 + v20)] : List Int)))] 4 (by simp [h5, h6, h5_, h6_, h24, h24_]) (by simp [h5, h6, h5_, h6_, h24, h24_]) (by simp) ?_
      refine Can.flg [] [(2, .cells [AV.lst false false (List.map (AV.int .i64) (([0, 1, 2, 3, 4, 5, 6] : List Int).take (IntKind.wrap .i64 (2 + v16)).toNat)), AV.lst false false (List.map (AV.int .i64) ([0, 1] : List Int)), AV.slc 3 0 1 (([IntKind.wrap .i64 (1 + v18), IntKind.wrap .i64 (1 + v20)] : List Int).length) true, AV.int .i64 v22, AV.int .i64 v10, AV.int .i64 v12, AV.int .i64 v14])] trivial ⟨⟨AObj.cells [AV.lst false false (List.map (AV.int .i64) (([0, 1, 2, 3, 4, 5, 6] : List Int).take (IntKind.wrap .i64 (2 + v16)).toNat)), AV.lst false true (List.map (AV.int .i64) ([0, 1] : List Int)), AV.slc 3 0 1 (([IntKind.wrap .i64 (1 + v18), IntKind.wrap .i64 (1 + v20)] : List Int).length) true, AV.int .i64 v22, AV.int .i64 v10, AV.int .i64 v12, AV.int .i64 v14], by simp [h5, h6, h5_, h6_, h24, h24_], (.mk (.cons (.same _) (.cons (.lst (by simp)) (.cons (.same _) (.cons (.same _) (.cons (.same _) (.cons (.same _) (.cons (.same _) .nil))))))))⟩, trivial⟩ (by simp) ?_
      exact Can.join ((([0, 1] : List Int), v30)) hF (by simp [h5, h6, h5_, h6_, h24, h24_]) (by simp [h5, h6, h5_, h6_, h24, h24_]) (by simp)
    · replace hF := ite_f h24 hF
      have h24_ := h24
      try simp at h24_
      refine AW.condF (by decide) (by first | (simp [h5, h6, h5_, h6_, h24, h24_]; done) | (simp [h5, h6, h5_, h6_, h24, h24_]; omega)) ?_
      refine AW.skip ?_
      refine hK20 _ _ _ ?_
      refine Can.flg [] [(2, .cells [AV.lst false false (List.map (AV.int .i64) (([0, 1, 2, 3, 4, 5, 6] : List Int).take (IntKind.wrap .i64 (2 + v16)).toNat)), AV.lst false false (List.map (AV.int .i64) ([0] : List Int)), AV.slc 3 0 1 (([IntKind.wrap .i64 (1 + v18), IntKind.wrap .i64 (1 + v20)] : List Int).length) true, AV.int .i64 v22, AV.int .i64 v10, AV.int .i64 v12, AV.int .i64 v14])] trivial ⟨⟨AObj.cells [AV.lst false false (List.map (AV.int .i64) (([0, 1, 2, 3, 4, 5, 6] : List Int).take (IntKind.wrap .i64 (2 + v16)).toNat)), AV.lst false true (List.map (AV.int .i64) ([0] : List Int)), AV.slc 3 0 1 (([IntKind.wrap .i64 (1 + v18), IntKind.wrap .i64 (1 + v20)] : List Int).length) true, AV.int .i64 v22, AV.int .i64 v10, AV.int .i64 v12, AV.int .i64 v14], by simp [h5, h6, h5_, h6_, h24, h24_], (.mk (.cons (.same _) (.cons (.lst (by simp)) (.cons (.same _) (.cons (.same _) (.cons (.same _) (.cons (.same _) (.cons (.same _) .nil))))))))⟩, trivial⟩ (by simp) ?_
      exact Can.join ((([0] : List Int), v30)) hF (by simp [h5, h6, h5_, h6_, h24, h24_]) (by simp [h5, h6, h5_, h6_, h24, h24_]) (by simp)
  · rintro ⟨v24, v25⟩ hF
    try dsimp only at hF
    unfold mill_Rules.J1 at hF
    refine AW.seqR mixed [] [none, none, none, none, none, none, none, none, none, none, none, none, none, none, none, none] (by kernel_rfl) fun G18 R18 hG18 hR18 => ?_
    obtain ⟨⟨h10, h11⟩, hF⟩ := chk_elim hF
    have h11_ := ne_of_lt h11
    obtain ⟨v26, h12, h13, h14, hF⟩ := idx_elim hF
    have h14_ := get_of h14
    try simp at h14_
    have h13_ := h13
    try simp at h13_
    have h14z := head_of h14
    have h14__ := get_of (map_get ((AV.int .i64)) h14)
    try simp at h14__
    obtain ⟨⟨h15, h16⟩, hF⟩ := chk_elim hF
    have h16_ := ne_of_lt h16
    obtain ⟨v27, h17, h18, h19, hF⟩ := idx_elim hF
    have h19_ := get_of h19
    try simp at h19_
    have h18_ := h18
    try simp at h18_
    have h19__ := get_of (map_get ((AV.int .i64)) h19)
    try simp at h19__
    obtain ⟨v28, h20, hF⟩ := let1_elim hF
    have h20_ := h20
    try simp at h20_
    obtain ⟨⟨h21, h22⟩, hF⟩ := chk_elim hF
    have h22_ := ne_of_lt h22
    try simp [h5, h6, h5_, h6_, h10, h11, h11_, h12, h13, h14, h14_, h13_, h14z, h14__, h15, h16, h16_, h17, h18, h19, h19_, h18_, h19__, h20, h20_, h21, h22, h22_]
    repeat' apply And.intro
    any_goals (first | exact hG18 _ (by kernel_rfl) | refine hR18 _ _ _ ?_ | omega | (unfold maxLen; omega) | (simp [h5, h6, h5_, h6_, h10, h11, h11_, h12, h13, h14, h14_, h13_, h14z, h14__, h15, h16, h16_, h17, h18, h19, h19_, h18_, h19__, h20, h20_, h21, h22, h22_]; done) | (simp [h5, h6, h5_, h6_, h10, h11, h11_, h12, h13, h14, h14_, h13_, h14z, h14__, h15, h16, h16_, h17, h18, h19, h19_, h18_, h19__, h20, h20_, h21, h22, h22_]; omega))
    refine AW.wk [(2, AV.ptr 1 0), (3, AV.ptr 2 0)] [(0, .cells [AV.lst false false (List.map (AV.int .i64) v0), AV.int .i64 v25]), (1, .cells [AV.lst true true (List.map (AV.int .i64) ([] : List Int)), AV.lst true true (List.map (AV.int .i64) ([] : List Int)), AV.lst true true (List.map (AV.int .i64) ([] : List Int)), AV.int .i64 0, AV.int .i64 0, AV.int .i64 0, AV.int .i64 0]), (2, .cells [AV.lst false false (List.map (AV.int .i64) (([0, 1, 2, 3, 4, 5, 6] : List Int).take (IntKind.wrap .i64 (2 + v16)).toNat)), AV.lst false false (List.map (AV.int .i64) v24), AV.slc 3 0 1 ((([IntKind.wrap .i64 (1 + v18), IntKind.wrap .i64 (1 + v20)] : List Int).set (1 : Int).toNat v28).length) true, AV.int .i64 v22, AV.int .i64 v10, AV.int .i64 v12, AV.int .i64 v14]), (3, .cells (List.map (AV.int .i64) (([IntKind.wrap .i64 (1 + v18), IntKind.wrap .i64 (1 + v20)] : List Int).set (1 : Int).toNat v28)))] 4 (by simp [h5, h6, h5_, h6_, h10, h11, h11_, h12, h13, h14, h14_, h13_, h14z, h14__, h15, h16, h16_, h17, h18, h19, h19_, h18_, h19__, h20, h20_, h21, h22, h22_]) (by simp [h5, h6, h5_, h6_, h10, h11, h11_, h12, h13, h14, h14_, h13_, h14z, h14__, h15, h16, h16_, h17, h18, h19, h19_, h18_, h19__, h20, h20_, h21, h22, h22_]) (by simp) ?_
    refine AW.seqR mixed [] [none, none] (by kernel_rfl) fun G19 R19 hG19 hR19 => ?_
    try simp [h5, h6, h5_, h6_, h10, h11, h11_, h12, h13, h14, h14_, h13_, h14z, h14__, h15, h16, h16_, h17, h18, h19, h19_, h18_, h19__, h20, h20_, h21, h22, h22_]
    repeat' apply And.intro
    any_goals (first | exact hG19 _ (by kernel_rfl) | refine hR19 _ _ _ ?_ | omega | (unfold maxLen; omega) | (simp [h5, h6, h5_, h6_, h10, h11, h11_, h12, h13, h14, h14_, h13_, h14z, h14__, h15, h16, h16_, h17, h18, h19, h19_, h18_, h19__, h20, h20_, h21, h22, h22_]; done) | (simp [h5, h6, h5_, h6_, h10, h11, h11_, h12, h13, h14, h14_, h13_, h14z, h14__, h15, h16, h16_, h17, h18, h19, h19_, h18_, h19__, h20, h20_, h21, h22, h22_]; omega))
    refine AW.wk [(2, AV.ptr 1 0)] [(0, .cells [AV.lst false false (List.map (AV.int .i64) v0), AV.int .i64 v25]), (1, .cells [AV.lst false false (List.map (AV.int .i64) (([0, 1, 2, 3, 4, 5, 6] : List Int).take (IntKind.wrap .i64 (2 + v16)).toNat)), AV.lst false false (List.map (AV.int .i64) v24), AV.slc 3 0 1 ((([IntKind.wrap .i64 (1 + v18), IntKind.wrap .i64 (1 + v20)] : List Int).set (1 : Int).toNat v28).length) true, AV.int .i64 v22, AV.int .i64 v10, AV.int .i64 v12, AV.int .i64 v14]), (3, .cells (List.map (AV.int .i64) (([IntKind.wrap .i64 (1 + v18), IntKind.wrap .i64 (1 + v20)] : List Int).set (1 : Int).toNat v28)))] 4 (by simp [h5, h6, h5_, h6_, h10, h11, h11_, h12, h13, h14, h14_, h13_, h14z, h14__, h15, h16, h16_, h17, h18, h19, h19_, h18_, h19__, h20, h20_, h21, h22, h22_]) (by simp [h5, h6, h5_, h6_, h10, h11, h11_, h12, h13, h14, h14_, h13_, h14z, h14__, h15, h16, h16_, h17, h18, h19, h19_, h18_, h19__, h20, h20_, h21, h22, h22_]) (by simp) ?_
    refine AW.rnm (m := 1) h0 [(0, 0), (1, 3), (2, 1)] [(2, AV.ptr 2 0)] [(0, .cells [AV.lst false false (List.map (AV.int .i64) v0), AV.int .i64 v25]), (1, .cells (List.map (AV.int .i64) (([IntKind.wrap .i64 (1 + v18), IntKind.wrap .i64 (1 + v20)] : List Int).set (1 : Int).toNat v28))), (2, .cells [AV.lst false false (List.map (AV.int .i64) (([0, 1, 2, 3, 4, 5, 6] : List Int).take (IntKind.wrap .i64 (2 + v16)).toNat)), AV.lst false false (List.map (AV.int .i64) v24), AV.slc 1 0 1 ((([IntKind.wrap .i64 (1 + v18), IntKind.wrap .i64 (1 + v20)] : List Int).set (1 : Int).toNat v28).length) true, AV.int .i64 v22, AV.int .i64 v10, AV.int .i64 v12, AV.int .i64 v14])] 3 (by decide) (by decide) (by decide) rfl (by simp [h5, h6, h5_, h6_, h10, h11, h11_, h12, h13, h14, h14_, h13_, h14z, h14__, h15, h16, h16_, h17, h18, h19, h19_, h18_, h19__, h20, h20_, h21, h22, h22_]) (by simp [h5, h6, h5_, h6_, h10, h11, h11_, h12, h13, h14, h14_, h13_, h14z, h14__, h15, h16, h16_, h17, h18, h19, h19_, h18_, h19__, h20, h20_, h21, h22, h22_]) ?_
    refine AW.flg [] [(2, .cells [AV.lst false false (List.map (AV.int .i64) (([0, 1, 2, 3, 4, 5, 6] : List Int).take (IntKind.wrap .i64 (2 + v16)).toNat)), AV.lst false false (List.map (AV.int .i64) v24), AV.slc 1 0 1 ((([IntKind.wrap .i64 (1 + v18), IntKind.wrap .i64 (1 + v20)] : List Int).set (1 : Int).toNat v28).length) false, AV.int .i64 v22, AV.int .i64 v10, AV.int .i64 v12, AV.int .i64 v14])] trivial ⟨⟨AObj.cells [AV.lst false false (List.map (AV.int .i64) (([0, 1, 2, 3, 4, 5, 6] : List Int).take (IntKind.wrap .i64 (2 + v16)).toNat)), AV.lst false false (List.map (AV.int .i64) v24), AV.slc 1 0 1 ((([IntKind.wrap .i64 (1 + v18), IntKind.wrap .i64 (1 + v20)] : List Int).set (1 : Int).toNat v28).length) true, AV.int .i64 v22, AV.int .i64 v10, AV.int .i64 v12, AV.int .i64 v14], by simp [h5, h6, h5_, h6_, h10, h11, h11_, h12, h13, h14, h14_, h13_, h14z, h14__, h15, h16, h16_, h17, h18, h19, h19_, h18_, h19__, h20, h20_, h21, h22, h22_], (.mk (.cons (.same _) (.cons (.same _) (.cons .slc (.cons (.same _) (.cons (.same _) (.cons (.same _) (.cons (.same _) .nil))))))))⟩, trivial⟩ (by simp) ?_
    simp only [Option.some.injEq, Prod.mk.injEq] at hF
    obtain ⟨e0, e1, e2, e3, e4, e5, e6, e7⟩ := hF
    subst e0 e1 e2 e3 e4 e5 e6 e7
    refine AW.ret (hQ _ _ _ ?_ (matchO_0 ?_)).1
    · simp [Try.f19, h5, h6, h5_, h6_, h10, h11, h11_, h12, h13, h14, h14_, h13_, h14z, h14__, h15, h16, h16_, h17, h18, h19, h19_, h18_, h19__, h20, h20_, h21, h22, h22_]
    · simp [h5, h6, h5_, h6_, h10, h11, h11_, h12, h13, h14, h14_, h13_, h14z, h14__, h15, h16, h16_, h17, h18, h19, h19_, h18_, h19__, h20, h20_, h21, h22, h22_]
set_option maxHeartbeats 4000000 in
theorem w_mill_Rules_o (k : Nat) (v0 : (List Int)) (v1 : Int) (v2 : (List Int)) (v3 : (List Int)) (v4 : (List Int)) (v5 : Int) (v6 : Int) (v7 : Int) (v8 : Int) (v9 : Int) (hF : mill_Rules_o k v0 v1 = some (v2, v3, v4, v5, v6, v7, v8, v9)) :
    FCall Try.prog 19 [AV.ptr 0 0] [.cells [AV.lst false false (List.map (AV.int .i64) v0), AV.int .i64 v1]] (AV.agg [AV.lst false false (List.map (AV.int .i64) v2), AV.slc 1 0 1 v3.length false, AV.slc 2 0 1 v4.length false, AV.int .i64 v5, AV.int .i64 v6, AV.int .i64 v7, AV.int .i64 v8]) [some (.cells [AV.lst false false (List.map (AV.int .i64) v0), AV.int .i64 v9]), some (.cells (List.map (AV.int .i64) v3)), some (.cells (List.map (AV.int .i64) v4))] := by
  unfold mill_Rules_o at hF
  refine FCall.enter Try.func19 rfl (by simp) (by decide) (by simp) (by simp) (by simp) (by simp) (by simp) ?_
  intro c0 w0 Q h0 hQ
  refine AW.wk [(0, AV.ptr 0 0)] [(0, .cells [AV.lst false false (List.map (AV.int .i64) v0), AV.int .i64 v1])] 1 (by simp) (by simp) (by simp) ?_
  refine AW.seqR mixed [] [none] (by kernel_rfl) fun G12 R12 hG12 hR12 => ?_
  try simp
  repeat' apply And.intro
  any_goals (first | exact hG12 _ (by kernel_rfl) | refine hR12 _ _ _ ?_ | omega | (unfold maxLen; omega) | (simp; done) | (simp; omega))
  refine AW.wk [(0, AV.ptr 0 0), (2, AV.ptr 1 0)] [(0, .cells [AV.lst false false (List.map (AV.int .i64) v0), AV.int .i64 v1]), (1, .cells [AV.lst true true (List.map (AV.int .i64) ([] : List Int)), AV.lst true true (List.map (AV.int .i64) ([] : List Int)), AV.lst true true (List.map (AV.int .i64) ([] : List Int)), AV.int .i64 0, AV.int .i64 0, AV.int .i64 0, AV.int .i64 0])] 2 (by simp) (by simp) (by simp) ?_
  refine AW.seqR mixed [] [none, none, none, none, none, none, none, none, none, none, none, none] (by kernel_rfl) fun G13 R13 hG13 hR13 => ?_
  try simp
  repeat' apply And.intro
  try any_goals (first | omega | (unfold maxLen; omega) | (simp; done))
  obtain ⟨v10, v11, h1, hF⟩ := bnd2_elim hF
  refine aCall_l (w_made_Dice_Of k _ _ _ _ _ h1) (by simp) [0] [] [0] rfl (.cons (.same (by simp)) (.cons (Coe.fl (by simp)) .nil)) (by simp) (by decide) (by simp) (by simp) (.inl rfl) (by simp) (by simp) ?_
  try simp
  repeat' apply And.intro
  try any_goals (first | omega | (unfold maxLen; omega) | (simp; done))
  obtain ⟨v12, v13, h2, hF⟩ := bnd2_elim hF
  refine aCall_l (w_made_Dice_Of k _ _ _ _ _ h2) (by simp) [0] [] [0] rfl (.cons (.same (by simp)) (.cons (Coe.fl (by simp)) .nil)) (by simp) (by decide) (by simp) (by simp) (.inl rfl) (by simp) (by simp) ?_
  try simp
  repeat' apply And.intro
  try any_goals (first | omega | (unfold maxLen; omega) | (simp; done))
  obtain ⟨v14, v15, h3, hF⟩ := bnd2_elim hF
  refine aCall_l (w_made_Dice_Of k _ _ _ _ _ h3) (by simp) [0] [] [0] rfl (.cons (.same (by simp)) (.cons (Coe.fl (by simp)) .nil)) (by simp) (by decide) (by simp) (by simp) (.inl rfl) (by simp) (by simp) ?_
  try simp
  repeat' apply And.intro
  any_goals (first | exact hG13 _ (by kernel_rfl) | refine hR13 _ _ _ ?_ | omega | (unfold maxLen; omega) | (simp; done) | (simp; omega))
  refine AW.wk [(0, AV.ptr 0 0), (2, AV.ptr 1 0), (3, AV.ptr 2 0)] [(0, .cells [AV.lst false false (List.map (AV.int .i64) v0), AV.int .i64 v15]), (1, .cells [AV.lst true true (List.map (AV.int .i64) ([] : List Int)), AV.lst true true (List.map (AV.int .i64) ([] : List Int)), AV.lst true true (List.map (AV.int .i64) ([] : List Int)), AV.int .i64 0, AV.int .i64 0, AV.int .i64 0, AV.int .i64 0]), (2, .cells [AV.lst true true (List.map (AV.int .i64) ([] : List Int)), AV.lst true true (List.map (AV.int .i64) ([] : List Int)), AV.lst true true (List.map (AV.int .i64) ([] : List Int)), AV.int .i64 0, AV.int .i64 v10, AV.int .i64 v12, AV.int .i64 v14])] 3 (by simp) (by simp) (by simp) ?_
  refine AW.seqR mixed [] [none, none, none, none, none, none, none] (by kernel_rfl) fun G14 R14 hG14 hR14 => ?_
  try simp
  repeat' apply And.intro
  try any_goals (first | omega | (unfold maxLen; omega) | (simp; done))
  obtain ⟨v16, v17, h4, hF⟩ := bnd2_elim hF
  refine aCall_l (w_made_Dice_Next k _ _ _ _ _ h4) (by simp) [0] [] [0] rfl (.cons (.same (by simp)) (.cons (.same (by simp)) .nil)) (by simp) (by decide) (by simp) (by simp) (.inl rfl) (by simp) (by simp) ?_
  obtain ⟨⟨h5, h6⟩, hF⟩ := chk_elim hF
  have h5_ := h5
  try simp at h5_
  have h6_ := h6
  try simp at h6_
  try simp [h5, h6, h5_, h6_]
  repeat' apply And.intro
  any_goals (first | exact hG14 _ (by kernel_rfl) | refine hR14 _ _ _ ?_ | omega | (unfold maxLen; omega) | (simp [h5, h6, h5_, h6_]; done) | (simp [h5, h6, h5_, h6_]; omega))
  refine AW.wk [(0, AV.ptr 0 0), (2, AV.ptr 1 0), (3, AV.ptr 2 0)] [(0, .cells [AV.lst false false (List.map (AV.int .i64) v0), AV.int .i64 v17]), (1, .cells [AV.lst true true (List.map (AV.int .i64) ([] : List Int)), AV.lst true true (List.map (AV.int .i64) ([] : List Int)), AV.lst true true (List.map (AV.int .i64) ([] : List Int)), AV.int .i64 0, AV.int .i64 0, AV.int .i64 0, AV.int .i64 0]), (2, .cells [AV.lst false false (List.map (AV.int .i64) (([0, 1, 2, 3, 4, 5, 6] : List Int).take (IntKind.wrap .i64 (2 + v16)).toNat)), AV.lst true true (List.map (AV.int .i64) ([] : List Int)), AV.lst true true (List.map (AV.int .i64) ([] : List Int)), AV.int .i64 0, AV.int .i64 v10, AV.int .i64 v12, AV.int .i64 v14])] 3 (by simp [h5, h6, h5_, h6_]) (by simp [h5, h6, h5_, h6_]) (by simp) ?_
  refine AW.seqR mixed [20, 29] [none, none, none, none, none, none, none, none, none, none, none, none, none, none, none, none] (by kernel_rfl) fun G15 R15 hG15 hR15 => ?_
  try simp [h5, h6, h5_, h6_]
  repeat' apply And.intro
  try any_goals (first | omega | (unfold maxLen; omega) | (simp [h5, h6, h5_, h6_]; done))
  obtain ⟨v18, v19, h7, hF⟩ := bnd2_elim hF
  refine aCall_l (w_made_Dice_Of k _ _ _ _ _ h7) (by simp) [0] [] [0] rfl (.cons (.same (by simp [h5, h6, h5_, h6_])) (.cons (Coe.fl (by simp [h5, h6, h5_, h6_])) .nil)) (by simp [h5, h6, h5_, h6_]) (by decide) (by simp) (by simp) (.inl rfl) (by simp) (by simp) ?_
  try simp [h5, h6, h5_, h6_]
  repeat' apply And.intro
  try any_goals (first | omega | (unfold maxLen; omega) | (simp [h5, h6, h5_, h6_]; done))
  obtain ⟨v20, v21, h8, hF⟩ := bnd2_elim hF
  refine aCall_l (w_made_Dice_Of k _ _ _ _ _ h8) (by simp) [0] [] [0] rfl (.cons (.same (by simp [h5, h6, h5_, h6_])) (.cons (Coe.fl (by simp [h5, h6, h5_, h6_])) .nil)) (by simp [h5, h6, h5_, h6_]) (by decide) (by simp) (by simp) (.inl rfl) (by simp) (by simp) ?_
  try simp [h5, h6, h5_, h6_]
  repeat' apply And.intro
  try any_goals (first | omega | (unfold maxLen; omega) | (simp [h5, h6, h5_, h6_]; done))
  obtain ⟨v22, v23, h9, hF⟩ := bnd2_elim hF
  refine aCall_l (w_made_Dice_Of k _ _ _ _ _ h9) (by simp) [0] [] [0] rfl (.cons (.same (by simp [h5, h6, h5_, h6_])) (.cons (Coe.fl (by simp [h5, h6, h5_, h6_])) .nil)) (by simp [h5, h6, h5_, h6_]) (by decide) (by simp) (by simp) (.inl rfl) (by simp) (by simp) ?_
  try simp [h5, h6, h5_, h6_]
  repeat' apply And.intro
  any_goals (first | exact hG15 _ (by kernel_rfl) | refine hR15 _ _ _ ?_ | omega | (unfold maxLen; omega) | (simp [h5, h6, h5_, h6_]; done) | (simp [h5, h6, h5_, h6_]; omega))
  refine AW.wk [(0, AV.ptr 0 0), (2, AV.ptr 1 0), (3, AV.ptr 2 0)] [(0, .cells [AV.lst false false (List.map (AV.int .i64) v0), AV.int .i64 v23]), (1, .cells [AV.lst true true (List.map (AV.int .i64) ([] : List Int)), AV.lst true true (List.map (AV.int .i64) ([] : List Int)), AV.lst true true (List.map (AV.int .i64) ([] : List Int)), AV.int .i64 0, AV.int .i64 0, AV.int .i64 0, AV.int .i64 0]), (2, .cells [AV.lst false false (List.map (AV.int .i64) (([0, 1, 2, 3, 4, 5, 6] : List Int).take (IntKind.wrap .i64 (2 + v16)).toNat)), AV.slc 3 0 1 (([0] : List Int).length) true, AV.slc 4 0 1 (([IntKind.wrap .i64 (1 + v18), IntKind.wrap .i64 (1 + v20)] : List Int).length) true, AV.int .i64 v22, AV.int .i64 v10, AV.int .i64 v12, AV.int .i64 v14]), (3, .cells (List.map (AV.int .i64) ([0] : List Int))), (4, .cells (List.map (AV.int .i64) ([IntKind.wrap .i64 (1 + v18), IntKind.wrap .i64 (1 + v20)] : List Int)))] 5 (by simp [h5, h6, h5_, h6_]) (by simp [h5, h6, h5_, h6_]) (by simp) ?_
  refine AW.midF (α := ((List Int) × Int)) (fun (v24, v25) => mill_Rules_o.J1 k v10 v12 v14 v16 v18 v20 v22 v24 v25 = some (v2, v3, v4, v5, v6, v7, v8, v9)) (fun (v24, v25) => [(2, AV.ptr 1 0), (3, AV.ptr 2 0)]) (fun (v24, v25) => [(0, .cells [AV.lst false false (List.map (AV.int .i64) v0), AV.int .i64 v25]), (1, .cells [AV.lst true true (List.map (AV.int .i64) ([] : List Int)), AV.lst true true (List.map (AV.int .i64) ([] : List Int)), AV.lst true true (List.map (AV.int .i64) ([] : List Int)), AV.int .i64 0, AV.int .i64 0, AV.int .i64 0, AV.int .i64 0]), (2, .cells [AV.lst false false (List.map (AV.int .i64) (([0, 1, 2, 3, 4, 5, 6] : List Int).take (IntKind.wrap .i64 (2 + v16)).toNat)), AV.slc 3 0 1 v24.length true, AV.slc 4 0 1 (([IntKind.wrap .i64 (1 + v18), IntKind.wrap .i64 (1 + v20)] : List Int).length) true, AV.int .i64 v22, AV.int .i64 v10, AV.int .i64 v12, AV.int .i64 v14]), (3, .cells (List.map (AV.int .i64) v24)), (4, .cells (List.map (AV.int .i64) ([IntKind.wrap .i64 (1 + v18), IntKind.wrap .i64 (1 + v20)] : List Int)))]) 5 (fun K20 hK20 => ?_) ?_
  · refine AW.seqR mixed [] [none, none] (by kernel_rfl) fun G21 R21 hG21 hR21 => ?_
    try simp [h5, h6, h5_, h6_]
    repeat' apply And.intro
    try any_goals (first | omega | (unfold maxLen; omega) | (simp [h5, h6, h5_, h6_]; done))
    obtain ⟨v29, v30, h23, hF⟩ := bnd2_elim hF
    refine aCall_l (w_made_Dice_One k _ _ _ _ _ h23) (by simp) [0] [] [0] rfl (.cons (.same (by simp [h5, h6, h5_, h6_])) (.cons (.same (by simp [h5, h6, h5_, h6_])) .nil)) (by simp [h5, h6, h5_, h6_]) (by decide) (by simp) (by simp) (.inl rfl) (by simp) (by simp) ?_
    try simp [h5, h6, h5_, h6_]
    repeat' apply And.intro
    any_goals (first | exact hG21 _ (by kernel_rfl) | refine hR21 _ _ _ ?_ | omega | (unfold maxLen; omega) | (simp [h5, h6, h5_, h6_]; done) | (simp [h5, h6, h5_, h6_]; omega))
    refine AW.wk [(2, AV.ptr 1 0), (3, AV.ptr 2 0), (36, AV.bool v29)] [(0, .cells [AV.lst false false (List.map (AV.int .i64) v0), AV.int .i64 v30]), (1, .cells [AV.lst true true (List.map (AV.int .i64) ([] : List Int)), AV.lst true true (List.map (AV.int .i64) ([] : List Int)), AV.lst true true (List.map (AV.int .i64) ([] : List Int)), AV.int .i64 0, AV.int .i64 0, AV.int .i64 0, AV.int .i64 0]), (2, .cells [AV.lst false false (List.map (AV.int .i64) (([0, 1, 2, 3, 4, 5, 6] : List Int).take (IntKind.wrap .i64 (2 + v16)).toNat)), AV.slc 3 0 1 (([0] : List Int).length) true, AV.slc 4 0 1 (([IntKind.wrap .i64 (1 + v18), IntKind.wrap .i64 (1 + v20)] : List Int).length) true, AV.int .i64 v22, AV.int .i64 v10, AV.int .i64 v12, AV.int .i64 v14]), (3, .cells (List.map (AV.int .i64) ([0] : List Int))), (4, .cells (List.map (AV.int .i64) ([IntKind.wrap .i64 (1 + v18), IntKind.wrap .i64 (1 + v20)] : List Int)))] 5 (by simp [h5, h6, h5_, h6_]) (by simp [h5, h6, h5_, h6_]) (by simp) ?_
    by_cases h24 : v29 = true
    · replace hF := ite_t h24 hF
      have h24_ := h24
      try simp at h24_
      refine AW.condT (by decide) (by first | (simp [h5, h6, h5_, h6_, h24, h24_]; done) | (simp [h5, h6, h5_, h6_, h24, h24_]; omega)) ?_
      refine AW.region mixed [37] [none, none, none, none] (by kernel_rfl) fun G22 R22 hG22 hR22 => ?_
      try simp [h5, h6, h5_, h6_, h24, h24_]
      repeat' apply And.intro
      any_goals (first | exact hG22 _ (by kernel_rfl) | refine hR22 _ _ _ ?_ | omega | (unfold maxLen; omega) | (simp [h5, h6, h5_, h6_, h24, h24_]; done) | (simp [h5, h6, h5_, h6_, h24, h24_]; omega))
      refine hK20 _ _ _ ?_
      refine Can.weak [(2, AV.ptr 1 0), (3, AV.ptr 2 0)] [(0, .cells [AV.lst false false (List.map (AV.int .i64) v0), AV.int .i64 v30]), (1, .cells [AV.lst true true (List.map (AV.int .i64) ([] : List Int)), AV.lst true true (List.map (AV.int .i64) ([] : List Int)), AV.lst true true (List.map (AV.int .i64) ([] : List Int)), AV.int .i64 0, AV.int .i64 0, AV.int .i64 0, AV.int .i64 0]), (2, .cells [AV.lst false false (List.map (AV.int .i64) (([0, 1, 2, 3, 4, 5, 6] : List Int).take (IntKind.wrap .i64 (2 + v16)).toNat)), AV.slc 5 0 1 (([0, 1] : List Int).length) true, AV.slc 4 0 1 (([IntKind.wrap .i64 (1 + v18), IntKind.wrap .i64 (1 + v20)] : List Int).length) true, AV.int .i64 v22, AV.int .i64 v10, AV.int .i64 v12, AV.int .i64 v14]), (4, .cells (List.map (AV.int .i64) ([IntKind.wrap .i64 (1 + v18), IntKind.wrap .i64 (1 + v20)] : List Int))), (5, .cells (List.map (AV.int .i64) ([0, 1] : List Int)))] 6 (by simp [h5, h6, h5_, h6_, h24, h24_]) (by simp [h5, h6, h5_, h6_, h24, h24_]) (by simp) ?_
      refine Can.ren (m := 1) h0 [(0, 0), (1, 1), (2, 2), (3, 5), (4, 4)] [(2, AV.ptr 1 0), (3, AV.ptr 2 0)] [(0, .cells [AV.lst false false (List.map (AV.int .i64) v0), AV.int .i64 v30]), (1, .cells [AV.lst true true (List.map (AV.int .i64) ([] : List Int)), AV.lst true true (List.map (AV.int .i64) ([] : List Int)), AV.lst true true (List.map (AV.int .i64) ([] : List Int)), AV.int .i64 0, AV.int .i64 0, AV.int .i64 0, AV.int .i64 0]), (2, .cells [AV.lst false false (List.map (AV.int .i64) (([0, 1, 2, 3, 4, 5, 6] : List Int).take (IntKind.wrap .i64 (2 + v16)).toNat)), AV.slc 3 0 1 (([0, 1] : List Int).length) true, AV.slc 4 0 1 (([IntKind.wrap .i64 (1 + v18), IntKind.wrap .i64 (1 + v20)] : List Int).length) true, AV.int .i64 v22, AV.int .i64 v10, AV.int .i64 v12, AV.int .i64 v14]), (3, .cells (List.map (AV.int .i64) ([0, 1] : List Int))), (4, .cells (List.map (AV.int .i64) ([IntKind.wrap .i64 (1 + v18), IntKind.wrap .i64 (1 + v20)] : List Int)))] 5 (by decide) (by decide) (by decide) rfl (by simp [h5, h6, h5_, h6_, h24, h24_]) (by simp [h5, h6, h5_, h6_, h24, h24_]) ?_
      exact Can.join ((([0, 1] : List Int), v30)) hF (by simp [h5, h6, h5_, h6_, h24, h24_]) (by simp [h5, h6, h5_, h6_, h24, h24_]) (by simp)
    · replace hF := ite_f h24 hF
      have h24_ := h24
      try simp at h24_
      refine AW.condF (by decide) (by first | (simp [h5, h6, h5_, h6_, h24, h24_]; done) | (simp [h5, h6, h5_, h6_, h24, h24_]; omega)) ?_
      refine AW.skip ?_
      refine hK20 _ _ _ ?_
      exact Can.join ((([0] : List Int), v30)) hF (by simp [h5, h6, h5_, h6_, h24, h24_]) (by simp [h5, h6, h5_, h6_, h24, h24_]) (by simp)
  · rintro ⟨v24, v25⟩ hF
    try dsimp only at hF
    unfold mill_Rules_o.J1 at hF
    refine AW.seqR mixed [] [none, none, none, none, none, none, none, none, none, none, none, none, none, none, none, none] (by kernel_rfl) fun G18 R18 hG18 hR18 => ?_
    obtain ⟨⟨h10, h11⟩, hF⟩ := chk_elim hF
    have h11_ := ne_of_lt h11
    obtain ⟨v26, h12, h13, h14, hF⟩ := idx_elim hF
    have h14_ := get_of h14
    try simp at h14_
    have h13_ := h13
    try simp at h13_
    have h14z := head_of h14
    have h14__ := get_of (map_get ((AV.int .i64)) h14)
    try simp at h14__
    obtain ⟨⟨h15, h16⟩, hF⟩ := chk_elim hF
    have h16_ := ne_of_lt h16
    obtain ⟨v27, h17, h18, h19, hF⟩ := idx_elim hF
    have h19_ := get_of h19
    try simp at h19_
    have h18_ := h18
    try simp at h18_
    have h19__ := get_of (map_get ((AV.int .i64)) h19)
    try simp at h19__
    obtain ⟨v28, h20, hF⟩ := let1_elim hF
    have h20_ := h20
    try simp at h20_
    obtain ⟨⟨h21, h22⟩, hF⟩ := chk_elim hF
    have h22_ := ne_of_lt h22
    try simp [h5, h6, h5_, h6_, h10, h11, h11_, h12, h13, h14, h14_, h13_, h14z, h14__, h15, h16, h16_, h17, h18, h19, h19_, h18_, h19__, h20, h20_, h21, h22, h22_]
    repeat' apply And.intro
    any_goals (first | exact hG18 _ (by kernel_rfl) | refine hR18 _ _ _ ?_ | omega | (unfold maxLen; omega) | (simp [h5, h6, h5_, h6_, h10, h11, h11_, h12, h13, h14, h14_, h13_, h14z, h14__, h15, h16, h16_, h17, h18, h19, h19_, h18_, h19__, h20, h20_, h21, h22, h22_]; done) | (simp [h5, h6, h5_, h6_, h10, h11, h11_, h12, h13, h14, h14_, h13_, h14z, h14__, h15, h16, h16_, h17, h18, h19, h19_, h18_, h19__, h20, h20_, h21, h22, h22_]; omega))
    refine AW.wk [(2, AV.ptr 1 0), (3, AV.ptr 2 0)] [(0, .cells [AV.lst false false (List.map (AV.int .i64) v0), AV.int .i64 v25]), (1, .cells [AV.lst true true (List.map (AV.int .i64) ([] : List Int)), AV.lst true true (List.map (AV.int .i64) ([] : List Int)), AV.lst true true (List.map (AV.int .i64) ([] : List Int)), AV.int .i64 0, AV.int .i64 0, AV.int .i64 0, AV.int .i64 0]), (2, .cells [AV.lst false false (List.map (AV.int .i64) (([0, 1, 2, 3, 4, 5, 6] : List Int).take (IntKind.wrap .i64 (2 + v16)).toNat)), AV.slc 3 0 1 v24.length true, AV.slc 4 0 1 ((([IntKind.wrap .i64 (1 + v18), IntKind.wrap .i64 (1 + v20)] : List Int).set (1 : Int).toNat v28).length) true, AV.int .i64 v22, AV.int .i64 v10, AV.int .i64 v12, AV.int .i64 v14]), (3, .cells (List.map (AV.int .i64) v24)), (4, .cells (List.map (AV.int .i64) (([IntKind.wrap .i64 (1 + v18), IntKind.wrap .i64 (1 + v20)] : List Int).set (1 : Int).toNat v28)))] 5 (by simp [h5, h6, h5_, h6_, h10, h11, h11_, h12, h13, h14, h14_, h13_, h14z, h14__, h15, h16, h16_, h17, h18, h19, h19_, h18_, h19__, h20, h20_, h21, h22, h22_]) (by simp [h5, h6, h5_, h6_, h10, h11, h11_, h12, h13, h14, h14_, h13_, h14z, h14__, h15, h16, h16_, h17, h18, h19, h19_, h18_, h19__, h20, h20_, h21, h22, h22_]) (by simp) ?_
    refine AW.seqR mixed [] [none, none] (by kernel_rfl) fun G19 R19 hG19 hR19 => ?_
    try simp [h5, h6, h5_, h6_, h10, h11, h11_, h12, h13, h14, h14_, h13_, h14z, h14__, h15, h16, h16_, h17, h18, h19, h19_, h18_, h19__, h20, h20_, h21, h22, h22_]
    repeat' apply And.intro
    any_goals (first | exact hG19 _ (by kernel_rfl) | refine hR19 _ _ _ ?_ | omega | (unfold maxLen; omega) | (simp [h5, h6, h5_, h6_, h10, h11, h11_, h12, h13, h14, h14_, h13_, h14z, h14__, h15, h16, h16_, h17, h18, h19, h19_, h18_, h19__, h20, h20_, h21, h22, h22_]; done) | (simp [h5, h6, h5_, h6_, h10, h11, h11_, h12, h13, h14, h14_, h13_, h14z, h14__, h15, h16, h16_, h17, h18, h19, h19_, h18_, h19__, h20, h20_, h21, h22, h22_]; omega))
    refine AW.wk [(2, AV.ptr 1 0)] [(0, .cells [AV.lst false false (List.map (AV.int .i64) v0), AV.int .i64 v25]), (1, .cells [AV.lst false false (List.map (AV.int .i64) (([0, 1, 2, 3, 4, 5, 6] : List Int).take (IntKind.wrap .i64 (2 + v16)).toNat)), AV.slc 3 0 1 v24.length true, AV.slc 4 0 1 ((([IntKind.wrap .i64 (1 + v18), IntKind.wrap .i64 (1 + v20)] : List Int).set (1 : Int).toNat v28).length) true, AV.int .i64 v22, AV.int .i64 v10, AV.int .i64 v12, AV.int .i64 v14]), (3, .cells (List.map (AV.int .i64) v24)), (4, .cells (List.map (AV.int .i64) (([IntKind.wrap .i64 (1 + v18), IntKind.wrap .i64 (1 + v20)] : List Int).set (1 : Int).toNat v28)))] 5 (by simp [h5, h6, h5_, h6_, h10, h11, h11_, h12, h13, h14, h14_, h13_, h14z, h14__, h15, h16, h16_, h17, h18, h19, h19_, h18_, h19__, h20, h20_, h21, h22, h22_]) (by simp [h5, h6, h5_, h6_, h10, h11, h11_, h12, h13, h14, h14_, h13_, h14z, h14__, h15, h16, h16_, h17, h18, h19, h19_, h18_, h19__, h20, h20_, h21, h22, h22_]) (by simp) ?_
    refine AW.rnm (m := 1) h0 [(0, 0), (1, 3), (2, 4), (3, 1)] [(2, AV.ptr 3 0)] [(0, .cells [AV.lst false false (List.map (AV.int .i64) v0), AV.int .i64 v25]), (1, .cells (List.map (AV.int .i64) v24)), (2, .cells (List.map (AV.int .i64) (([IntKind.wrap .i64 (1 + v18), IntKind.wrap .i64 (1 + v20)] : List Int).set (1 : Int).toNat v28))), (3, .cells [AV.lst false false (List.map (AV.int .i64) (([0, 1, 2, 3, 4, 5, 6] : List Int).take (IntKind.wrap .i64 (2 + v16)).toNat)), AV.slc 1 0 1 v24.length true, AV.slc 2 0 1 ((([IntKind.wrap .i64 (1 + v18), IntKind.wrap .i64 (1 + v20)] : List Int).set (1 : Int).toNat v28).length) true, AV.int .i64 v22, AV.int .i64 v10, AV.int .i64 v12, AV.int .i64 v14])] 4 (by decide) (by decide) (by decide) rfl (by simp [h5, h6, h5_, h6_, h10, h11, h11_, h12, h13, h14, h14_, h13_, h14z, h14__, h15, h16, h16_, h17, h18, h19, h19_, h18_, h19__, h20, h20_, h21, h22, h22_]) (by simp [h5, h6, h5_, h6_, h10, h11, h11_, h12, h13, h14, h14_, h13_, h14z, h14__, h15, h16, h16_, h17, h18, h19, h19_, h18_, h19__, h20, h20_, h21, h22, h22_]) ?_
    refine AW.flg [] [(3, .cells [AV.lst false false (List.map (AV.int .i64) (([0, 1, 2, 3, 4, 5, 6] : List Int).take (IntKind.wrap .i64 (2 + v16)).toNat)), AV.slc 1 0 1 v24.length false, AV.slc 2 0 1 ((([IntKind.wrap .i64 (1 + v18), IntKind.wrap .i64 (1 + v20)] : List Int).set (1 : Int).toNat v28).length) false, AV.int .i64 v22, AV.int .i64 v10, AV.int .i64 v12, AV.int .i64 v14])] trivial ⟨⟨AObj.cells [AV.lst false false (List.map (AV.int .i64) (([0, 1, 2, 3, 4, 5, 6] : List Int).take (IntKind.wrap .i64 (2 + v16)).toNat)), AV.slc 1 0 1 v24.length true, AV.slc 2 0 1 ((([IntKind.wrap .i64 (1 + v18), IntKind.wrap .i64 (1 + v20)] : List Int).set (1 : Int).toNat v28).length) true, AV.int .i64 v22, AV.int .i64 v10, AV.int .i64 v12, AV.int .i64 v14], by simp [h5, h6, h5_, h6_, h10, h11, h11_, h12, h13, h14, h14_, h13_, h14z, h14__, h15, h16, h16_, h17, h18, h19, h19_, h18_, h19__, h20, h20_, h21, h22, h22_], (.mk (.cons (.same _) (.cons .slc (.cons .slc (.cons (.same _) (.cons (.same _) (.cons (.same _) (.cons (.same _) .nil))))))))⟩, trivial⟩ (by simp) ?_
    simp only [Option.some.injEq, Prod.mk.injEq] at hF
    obtain ⟨e0, e1, e2, e3, e4, e5, e6, e7⟩ := hF
    subst e0 e1 e2 e3 e4 e5 e6 e7
    refine AW.ret (hQ _ _ _ ?_ (matchO_0 ?_)).1
    · simp [Try.f19, h5, h6, h5_, h6_, h10, h11, h11_, h12, h13, h14, h14_, h13_, h14z, h14__, h15, h16, h16_, h17, h18, h19, h19_, h18_, h19__, h20, h20_, h21, h22, h22_]
    · simp [h5, h6, h5_, h6_, h10, h11, h11_, h12, h13, h14, h14_, h13_, h14z, h14__, h15, h16, h16_, h17, h18, h19, h19_, h18_, h19__, h20, h20_, h21, h22, h22_]
end Go.TF
