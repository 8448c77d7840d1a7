/- Walks: the Go text computes the Lean functions (printed by a program of our own). -/
import Derived.Test.YtocmgnljgemjkaaPu
import Derived.Test.YtocmgnljgemjkaaAbsT
import Derived.Test.YtocmgnljgemjkaaWa0
import Derived.Test.YtocmgnljgemjkaaWF1
set_option linter.unusedVariables false
set_option linter.unusedSimpArgs false
set_option maxRecDepth 100000
namespace Go.TF
open Go Go.Abs Go.Proofs Go.Proofs.YtocmgnljgemjkaaT
set_option maxHeartbeats 4000000 in
theorem w_ref23_SameInts (k : Nat) (v0 : (List Int)) (v1 : (List Int)) (v2 : Bool) (hF : ref23_SameInts k v0 v1 = some v2) :
    FCall Try.prog 49 [AV.lst false false (List.map (AV.int .i64) v0), AV.lst false false (List.map (AV.int .i64) v1)] [] (AV.bool v2) [] := by
  unfold ref23_SameInts at hF
  refine FCall.enter Try.func49 rfl (by simp) (by decide) (by simp) (by simp) (by simp) (by simp) (by simp) ?_
  intro c0 w0 Q h0 hQ
  refine AW.wk [(0, AV.lst false false (List.map (AV.int .i64) v0)), (1, AV.lst false false (List.map (AV.int .i64) v1))] [] 0 (by simp) (by simp) (by simp) ?_
  refine AW.seqR mixed [] [none] (by kernel_rfl) fun G67 R67 hG67 hR67 => ?_
  try simp
  repeat' apply And.intro
  any_goals (first | exact hG67 _ (by kernel_rfl) | refine hR67 _ _ _ ?_ | omega | (unfold maxLen; omega) | (simp; done) | (simp; omega))
  refine AW.wk [(0, AV.lst false false (List.map (AV.int .i64) v0)), (1, AV.lst false false (List.map (AV.int .i64) v1))] [] 0 (by simp) (by simp) (by simp) ?_
  refine AW.seq fun K70 hK70 => ?_
  refine AW.seqR mixed [] [none, none, none, none, none] (by kernel_rfl) fun G71 R71 hG71 hR71 => ?_
  try simp
  repeat' apply And.intro
  any_goals (first | exact hG71 _ (by kernel_rfl) | refine hR71 _ _ _ ?_ | omega | (unfold maxLen; omega) | (simp; done) | (simp; omega))
  refine AW.wk [(0, AV.lst false false (List.map (AV.int .i64) v0)), (1, AV.lst false false (List.map (AV.int .i64) v1)), (10, AV.bool ((v0.length : Int) != (v1.length : Int)))] [] 0 (by simp) (by simp) (by simp) ?_
  by_cases h1 : (v0.length : Int) ≠ (v1.length : Int)
  · replace hF := ite_t h1 hF
    have h1_ := eqb_f h1
    have h1__ := neb_t h1
    refine AW.condT (by decide) (by first | (simp [h1, h1_, h1__]; done) | (simp [h1, h1_, h1__]; omega)) ?_
    refine AW.seqR mixed [] [none] (by kernel_rfl) fun G72 R72 hG72 hR72 => ?_
    try simp [h1, h1_, h1__]
    repeat' apply And.intro
    any_goals (first | exact hG72 _ (by kernel_rfl) | refine hR72 _ _ _ ?_ | omega | (unfold maxLen; omega) | (simp [h1, h1_, h1__]; done) | (simp [h1, h1_, h1__]; omega))
    refine AW.wk [(4, AV.bool false)] [] 0 (by simp [h1, h1_, h1__]) (by simp [h1, h1_, h1__]) (by simp) ?_
    simp only [Option.some.injEq] at hF
    subst hF
    refine AW.ret (hQ _ _ _ ?_ (matchO_0 ?_)).1
    · simp [Try.f49, h1, h1_, h1__]
    · simp [h1, h1_, h1__]
  · replace hF := ite_f h1 hF
    have h1q : (v0.length : Int) = (v1.length : Int) := Classical.not_not.1 h1
    have h1_ := eqb_t h1q
    have h1__ := neb_f h1q
    refine AW.condF (by decide) (by first | (simp [h1_, h1__]; done) | (simp [h1_, h1__]; omega)) ?_
    refine AW.skip ?_
    refine hK70 _ _ _ ?_
    refine AW.seq fun K102 hK102 => ?_
    refine AW.seqR mixed [] [none] (by kernel_rfl) fun G103 R103 hG103 hR103 => ?_
    try simp [h1_, h1__]
    repeat' apply And.intro
    any_goals (first | exact hG103 _ (by kernel_rfl) | refine hR103 _ _ _ ?_ | omega | (unfold maxLen; omega) | (simp [h1_, h1__]; done) | (simp [h1_, h1__]; omega))
    refine AW.wk [(0, AV.lst false false (List.map (AV.int .i64) v0)), (1, AV.lst false false (List.map (AV.int .i64) v1)), (5, AV.int .i64 0)] [] 0 (by simp [h1_, h1__]) (by simp [h1_, h1__]) (by simp) ?_
    refine AW.block ?_
    refine AW.loopF (α := Int) (fun n v3 => ref23_SameInts.L1 k v0 v1 n v3 = some v2) (fun v3 => [(0, AV.lst false false (List.map (AV.int .i64) v0)), (1, AV.lst false false (List.map (AV.int .i64) v1)), (5, AV.int .i64 v3)]) (fun v3 => []) 0 k (0) hF (by simp [h1_, h1__]) (by simp [h1_, h1__]) (by simp) ?_
    rintro (_|n1) v3 hF K122 hK122
    · try dsimp only at hF
      rw [ref23_SameInts.L1] at hF; cases hF
    try dsimp only at hF
    rw [ref23_SameInts.L1] at hF
    refine AW.seq fun K124 hK124 => ?_
    refine AW.seqR mixed [] [none, none, none, none] (by kernel_rfl) fun G125 R125 hG125 hR125 => ?_
    try simp [h1_, h1__]
    repeat' apply And.intro
    any_goals (first | exact hG125 _ (by kernel_rfl) | refine hR125 _ _ _ ?_ | omega | (unfold maxLen; omega) | (simp [h1_, h1__]; done) | (simp [h1_, h1__]; omega))
    refine AW.wk [(0, AV.lst false false (List.map (AV.int .i64) v0)), (1, AV.lst false false (List.map (AV.int .i64) v1)), (5, AV.int .i64 v3), (14, AV.bool (decide (v3 < (v0.length : Int))))] [] 0 (by simp [h1_, h1__]) (by simp [h1_, h1__]) (by simp) ?_
    by_cases h2 : v3 < (v0.length : Int)
    · replace hF := ite_t h2 hF
      have h2_ := h2
      try simp at h2_
      refine AW.condT (by decide) (by first | (simp [h1_, h1__, h2, h2_]; done) | (simp [h1_, h1__, h2, h2_]; omega)) ?_
      refine AW.skip ?_
      refine hK124 _ _ _ ?_
      refine AW.seq fun K128 hK128 => ?_
      refine AW.block ?_
      refine AW.seqR mixed [] [none, none, none, none, none, none, none, none, none] (by kernel_rfl) fun G129 R129 hG129 hR129 => ?_
      obtain ⟨v4, h3, h4, h5, hF⟩ := idx_elim hF
      have h5_ := get_of h5
      try simp at h5_
      have h4_ := h4
      try simp at h4_
      obtain ⟨v5, h6, h7, h8, hF⟩ := idx_elim hF
      have h8_ := get_of h8
      try simp at h8_
      have h7_ := h7
      try simp at h7_
      try simp [h1_, h1__, h2, h2_, h3, h4, h5, h5_, h4_, h6, h7, h8, h8_, h7_]
      repeat' apply And.intro
      any_goals (first | exact hG129 _ (by kernel_rfl) | refine hR129 _ _ _ ?_ | omega | (unfold maxLen; omega) | (simp [h1_, h1__, h2, h2_, h3, h4, h5, h5_, h4_, h6, h7, h8, h8_, h7_]; done) | (simp [h1_, h1__, h2, h2_, h3, h4, h5, h5_, h4_, h6, h7, h8, h8_, h7_]; omega))
      refine AW.wk [(0, AV.lst false false (List.map (AV.int .i64) v0)), (1, AV.lst false false (List.map (AV.int .i64) v1)), (5, AV.int .i64 v3), (25, AV.bool (v4 != v5))] [] 0 (by simp [h1_, h1__, h2, h2_, h3, h4, h5, h5_, h4_, h6, h7, h8, h8_, h7_]) (by simp [h1_, h1__, h2, h2_, h3, h4, h5, h5_, h4_, h6, h7, h8, h8_, h7_]) (by simp) ?_
      by_cases h9 : v4 ≠ v5
      · replace hF := ite_t h9 hF
        have h9_ := eqb_f h9
        have h9__ := neb_t h9
        refine AW.condT (by decide) (by first | (simp [h1_, h1__, h2, h2_, h3, h4, h5, h5_, h4_, h6, h7, h8, h8_, h7_, h9, h9_, h9__]; done) | (simp [h1_, h1__, h2, h2_, h3, h4, h5, h5_, h4_, h6, h7, h8, h8_, h7_, h9, h9_, h9__]; omega)) ?_
        refine AW.seqR mixed [] [none] (by kernel_rfl) fun G130 R130 hG130 hR130 => ?_
        try simp [h1_, h1__, h2, h2_, h3, h4, h5, h5_, h4_, h6, h7, h8, h8_, h7_, h9, h9_, h9__]
        repeat' apply And.intro
        any_goals (first | exact hG130 _ (by kernel_rfl) | refine hR130 _ _ _ ?_ | omega | (unfold maxLen; omega) | (simp [h1_, h1__, h2, h2_, h3, h4, h5, h5_, h4_, h6, h7, h8, h8_, h7_, h9, h9_, h9__]; done) | (simp [h1_, h1__, h2, h2_, h3, h4, h5, h5_, h4_, h6, h7, h8, h8_, h7_, h9, h9_, h9__]; omega))
        refine AW.wk [(4, AV.bool false)] [] 0 (by simp [h1_, h1__, h2, h2_, h3, h4, h5, h5_, h4_, h6, h7, h8, h8_, h7_, h9, h9_, h9__]) (by simp [h1_, h1__, h2, h2_, h3, h4, h5, h5_, h4_, h6, h7, h8, h8_, h7_, h9, h9_, h9__]) (by simp) ?_
        simp only [Option.some.injEq] at hF
        subst hF
        refine AW.ret (hQ _ _ _ ?_ (matchO_0 ?_)).1
        · simp [Try.f49, h1_, h1__, h2, h2_, h3, h4, h5, h5_, h4_, h6, h7, h8, h8_, h7_, h9, h9_, h9__]
        · simp [h1_, h1__, h2, h2_, h3, h4, h5, h5_, h4_, h6, h7, h8, h8_, h7_, h9, h9_, h9__]
      · replace hF := ite_f h9 hF
        have h9q : v4 = v5 := Classical.not_not.1 h9
        have h9_ := eqb_t h9q
        have h9__ := neb_f h9q
        refine AW.condF (by decide) (by first | (simp [h1_, h1__, h2, h2_, h3, h4, h5, h5_, h4_, h6, h7, h8, h8_, h7_, h9_, h9__]; done) | (simp [h1_, h1__, h2, h2_, h3, h4, h5, h5_, h4_, h6, h7, h8, h8_, h7_, h9_, h9__]; omega)) ?_
        refine AW.skip ?_
        refine hK128 _ _ _ ?_
        refine AW.region mixed [] [none, none, none] (by kernel_rfl) fun G131 R131 hG131 hR131 => ?_
        try simp [h1_, h1__, h2, h2_, h3, h4, h5, h5_, h4_, h6, h7, h8, h8_, h7_, h9_, h9__]
        repeat' apply And.intro
        any_goals (first | exact hG131 _ (by kernel_rfl) | refine hR131 _ _ _ ?_ | omega | (unfold maxLen; omega) | (simp [h1_, h1__, h2, h2_, h3, h4, h5, h5_, h4_, h6, h7, h8, h8_, h7_, h9_, h9__]; done) | (simp [h1_, h1__, h2, h2_, h3, h4, h5, h5_, h4_, h6, h7, h8, h8_, h7_, h9_, h9__]; omega))
        refine hK122 _ _ _ ?_
        refine Can.weak [(0, AV.lst false false (List.map (AV.int .i64) v0)), (1, AV.lst false false (List.map (AV.int .i64) v1)), (5, AV.int .i64 (IntKind.wrap .i64 (v3 + 1)))] [] 0 (by simp [h1_, h1__, h2, h2_, h3, h4, h5, h5_, h4_, h6, h7, h8, h8_, h7_, h9_, h9__]) (by simp [h1_, h1__, h2, h2_, h3, h4, h5, h5_, h4_, h6, h7, h8, h8_, h7_, h9_, h9__]) (by simp) ?_
        exact Can.next (k' := n1) (IntKind.wrap .i64 (v3 + 1)) (by omega) hF (by simp [h1_, h1__, h2, h2_, h3, h4, h5, h5_, h4_, h6, h7, h8, h8_, h7_, h9_, h9__]) (by simp [h1_, h1__, h2, h2_, h3, h4, h5, h5_, h4_, h6, h7, h8, h8_, h7_, h9_, h9__]) (by simp)
    · replace hF := ite_f h2 hF
      have h2_ := h2
      try simp at h2_
      refine AW.condF (by decide) (by first | (simp [h1_, h1__, h2, h2_]; done) | (simp [h1_, h1__, h2, h2_]; omega)) ?_
      refine AW.exit ?_
      try simp
      refine hK102 _ _ _ ?_
      refine AW.seqR mixed [] [none] (by kernel_rfl) fun G132 R132 hG132 hR132 => ?_
      try simp [h1_, h1__, h2, h2_]
      repeat' apply And.intro
      any_goals (first | exact hG132 _ (by kernel_rfl) | refine hR132 _ _ _ ?_ | omega | (unfold maxLen; omega) | (simp [h1_, h1__, h2, h2_]; done) | (simp [h1_, h1__, h2, h2_]; omega))
      refine AW.wk [(4, AV.bool true)] [] 0 (by simp [h1_, h1__, h2, h2_]) (by simp [h1_, h1__, h2, h2_]) (by simp) ?_
      simp only [Option.some.injEq] at hF
      subst hF
      refine AW.ret (hQ _ _ _ ?_ (matchO_0 ?_)).1
      · simp [Try.f49, h1_, h1__, h2, h2_]
      · simp [h1_, h1__, h2, h2_]
set_option maxHeartbeats 4000000 in
theorem w_committee_Draw (k : Nat) (v0 : (List Int)) (v1 : (List Int)) (v2 : Int) (v3 : (List Int)) (v4 : Int) (hF : committee_Draw k v0 v1 v2 = some (v3, v4)) :
    FCall Try.prog 51 [AV.lst false false (List.map (AV.int .i64) v0), AV.lst false false (List.map (AV.int .i64) v1), AV.int .i64 v2] [] (AV.tup [AV.slc 0 0 1 v3.length false, AV.int .i64 v4]) [some (.grow (List.map (AV.int .i64) v3))] := by
  unfold committee_Draw at hF
  refine FCall.enter Try.func51 rfl (by simp) (by decide) (by simp) (by simp) (by simp) (by simp) (by simp) ?_
  intro c0 w0 Q h0 hQ
  refine AW.wk [(0, AV.lst false false (List.map (AV.int .i64) v0)), (1, AV.lst false false (List.map (AV.int .i64) v1)), (2, AV.int .i64 v2)] [] 0 (by simp) (by simp) (by simp) ?_
  refine AW.seqR mixed [] [none, none] (by kernel_rfl) fun G157 R157 hG157 hR157 => ?_
  try simp
  repeat' apply And.intro
  any_goals (first | exact hG157 _ (by kernel_rfl) | refine hR157 _ _ _ ?_ | omega | (unfold maxLen; omega) | (simp; done) | (simp; omega))
  refine AW.wk [(0, AV.lst false false (List.map (AV.int .i64) v0)), (1, AV.lst false false (List.map (AV.int .i64) v1)), (2, AV.int .i64 v2)] [] 0 (by simp) (by simp) (by simp) ?_
  refine AW.seq fun K160 hK160 => ?_
  refine AW.seqR mixed [] [none, none, none] (by kernel_rfl) fun G161 R161 hG161 hR161 => ?_
  try simp
  repeat' apply And.intro
  try any_goals (first | omega | (unfold maxLen; omega) | (simp; done))
  obtain ⟨v5, h1, hF⟩ := bnd1_elim hF
  refine aCall_l (w_roster_Valid k _ _ h1) (by simp) [] [] [] rfl (.cons (.same (by simp)) .nil) (by simp) (by decide) (by simp) (by simp) (.inl rfl) (by simp) (by simp) ?_
  try simp
  repeat' apply And.intro
  any_goals (first | exact hG161 _ (by kernel_rfl) | refine hR161 _ _ _ ?_ | omega | (unfold maxLen; omega) | (simp; done) | (simp; omega))
  refine AW.wk [(0, AV.lst false false (List.map (AV.int .i64) v0)), (1, AV.lst false false (List.map (AV.int .i64) v1)), (2, AV.int .i64 v2), (16, AV.bool (!v5))] [] 0 (by simp) (by simp) (by simp) ?_
  by_cases h2 : (!v5) = true
  · replace hF := ite_t h2 hF
    have h2_ := h2
    try simp at h2_
    refine AW.condT (by decide) (by first | (simp [h2, h2_]; done) | (simp [h2, h2_]; omega)) ?_
    refine AW.seqR mixed [] [none, none] (by kernel_rfl) fun G162 R162 hG162 hR162 => ?_
    try simp [h2, h2_]
    repeat' apply And.intro
    any_goals (first | exact hG162 _ (by kernel_rfl) | refine hR162 _ _ _ ?_ | omega | (unfold maxLen; omega) | (simp [h2, h2_]; done) | (simp [h2, h2_]; omega))
    refine AW.wk [(6, AV.lst true true (List.map (AV.int .i64) ([] : List Int))), (7, AV.int .i64 43)] [] 0 (by simp [h2, h2_]) (by simp [h2, h2_]) (by simp) ?_
    refine AW.own' 6 1 true (by simp [h2, h2_]) (by decide) ?_
    simp only [Option.some.injEq, Prod.mk.injEq] at hF
    obtain ⟨e0, e1⟩ := hF
    subst e0 e1
    refine AW.ret (hQ _ _ _ ?_ (matchO_0 ?_)).1
    · simp [Try.f51, h2, h2_]
    · simp [h2, h2_]
  · replace hF := ite_f h2 hF
    have h2_ := h2
    try simp at h2_
    refine AW.condF (by decide) (by first | (simp [h2, h2_]; done) | (simp [h2, h2_]; omega)) ?_
    refine AW.skip ?_
    refine hK160 _ _ _ ?_
    refine AW.seqR mixed [] [none, none, none, none, none] (by kernel_rfl) fun G163 R163 hG163 hR163 => ?_
    obtain ⟨v6, h3, hF⟩ := let1_elim hF
    have h3_ := h3
    try simp at h3_
    try simp [h2, h2_, h3, h3_]
    repeat' apply And.intro
    any_goals (first | exact hG163 _ (by kernel_rfl) | refine hR163 _ _ _ ?_ | omega | (unfold maxLen; omega) | (simp [h2, h2_, h3, h3_]; done) | (simp [h2, h2_, h3, h3_]; omega))
    refine AW.wk [(0, AV.lst false false (List.map (AV.int .i64) v0)), (1, AV.lst false false (List.map (AV.int .i64) v1)), (2, AV.int .i64 v2), (8, AV.int .i64 v6)] [] 0 (by simp [h2, h2_, h3, h3_]) (by simp [h2, h2_, h3, h3_]) (by simp) ?_
    refine AW.seq fun K168 hK168 => ?_
    refine AW.seqR mixed [] [none, none, none, some (23, false), some (23, false), none, none, some (27, false), some (27, false), some (27, false), some (27, false), none] (by kernel_rfl) fun G169 R169 hG169 hR169 => ?_
    by_cases h4 : v2 < 1
    · replace hF := ite_t h4 hF
      have h4_ := h4
      try simp at h4_
      try simp [h2, h2_, h3, h3_, h4, h4_]
      repeat' apply And.intro
      any_goals (first | exact hG169 _ (by kernel_rfl) | refine hR169 _ _ _ ?_ | omega | (unfold maxLen; omega) | (simp [h2, h2_, h3, h3_, h4, h4_]; done) | (simp [h2, h2_, h3, h3_, h4, h4_]; omega))
      refine AW.wk [(0, AV.lst false false (List.map (AV.int .i64) v0)), (1, AV.lst false false (List.map (AV.int .i64) v1)), (8, AV.int .i64 v6), (32, AV.bool true)] [] 0 (by simp [h2, h2_, h3, h3_, h4, h4_]) (by simp [h2, h2_, h3, h3_, h4, h4_]) (by simp) ?_
      refine AW.condT (by decide) (by simp [h2, h2_, h3, h3_, h4, h4_]) ?_
      refine AW.seqR mixed [] [none, none] (by kernel_rfl) fun G170 R170 hG170 hR170 => ?_
      try simp [h2, h2_, h3, h3_, h4, h4_]
      repeat' apply And.intro
      any_goals (first | exact hG170 _ (by kernel_rfl) | refine hR170 _ _ _ ?_ | omega | (unfold maxLen; omega) | (simp [h2, h2_, h3, h3_, h4, h4_]; done) | (simp [h2, h2_, h3, h3_, h4, h4_]; omega))
      refine AW.wk [(6, AV.lst true true (List.map (AV.int .i64) ([] : List Int))), (7, AV.int .i64 44)] [] 0 (by simp [h2, h2_, h3, h3_, h4, h4_]) (by simp [h2, h2_, h3, h3_, h4, h4_]) (by simp) ?_
      refine AW.own' 6 1 true (by simp [h2, h2_, h3, h3_, h4, h4_]) (by decide) ?_
      simp only [Option.some.injEq, Prod.mk.injEq] at hF
      obtain ⟨e0, e1⟩ := hF
      subst e0 e1
      refine AW.ret (hQ _ _ _ ?_ (matchO_0 ?_)).1
      · simp [Try.f51, h2, h2_, h3, h3_, h4, h4_]
      · simp [h2, h2_, h3, h3_, h4, h4_]
    · replace hF := ite_f h4 hF
      have h4_ := h4
      try simp at h4_
      by_cases h5 : 9 < v2
      · replace hF := ite_t h5 hF
        have h5_ := h5
        try simp at h5_
        try simp [h2, h2_, h3, h3_, h4, h4_, h5, h5_]
        repeat' apply And.intro
        any_goals (first | exact hG169 _ (by kernel_rfl) | refine hR169 _ _ _ ?_ | omega | (unfold maxLen; omega) | (simp [h2, h2_, h3, h3_, h4, h4_, h5, h5_]; done) | (simp [h2, h2_, h3, h3_, h4, h4_, h5, h5_]; omega))
        refine AW.wk [(0, AV.lst false false (List.map (AV.int .i64) v0)), (1, AV.lst false false (List.map (AV.int .i64) v1)), (8, AV.int .i64 v6), (32, AV.bool true)] [] 0 (by simp [h2, h2_, h3, h3_, h4, h4_, h5, h5_]) (by simp [h2, h2_, h3, h3_, h4, h4_, h5, h5_]) (by simp) ?_
        refine AW.condT (by decide) (by simp [h2, h2_, h3, h3_, h4, h4_, h5, h5_]) ?_
        refine AW.seqR mixed [] [none, none] (by kernel_rfl) fun G171 R171 hG171 hR171 => ?_
        try simp [h2, h2_, h3, h3_, h4, h4_, h5, h5_]
        repeat' apply And.intro
        any_goals (first | exact hG171 _ (by kernel_rfl) | refine hR171 _ _ _ ?_ | omega | (unfold maxLen; omega) | (simp [h2, h2_, h3, h3_, h4, h4_, h5, h5_]; done) | (simp [h2, h2_, h3, h3_, h4, h4_, h5, h5_]; omega))
        refine AW.wk [(6, AV.lst true true (List.map (AV.int .i64) ([] : List Int))), (7, AV.int .i64 44)] [] 0 (by simp [h2, h2_, h3, h3_, h4, h4_, h5, h5_]) (by simp [h2, h2_, h3, h3_, h4, h4_, h5, h5_]) (by simp) ?_
        refine AW.own' 6 1 true (by simp [h2, h2_, h3, h3_, h4, h4_, h5, h5_]) (by decide) ?_
        simp only [Option.some.injEq, Prod.mk.injEq] at hF
        obtain ⟨e0, e1⟩ := hF
        subst e0 e1
        refine AW.ret (hQ _ _ _ ?_ (matchO_0 ?_)).1
        · simp [Try.f51, h2, h2_, h3, h3_, h4, h4_, h5, h5_]
        · simp [h2, h2_, h3, h3_, h4, h4_, h5, h5_]
      · replace hF := ite_f h5 hF
        have h5_ := h5
        try simp at h5_
        try simp [h2, h2_, h3, h3_, h4, h4_, h5, h5_]
        repeat' apply And.intro
        any_goals (first | exact hG169 _ (by kernel_rfl) | refine hR169 _ _ _ ?_ | omega | (unfold maxLen; omega) | (simp [h2, h2_, h3, h3_, h4, h4_, h5, h5_]; done) | (simp [h2, h2_, h3, h3_, h4, h4_, h5, h5_]; omega))
        refine AW.wk [(0, AV.lst false false (List.map (AV.int .i64) v0)), (1, AV.lst false false (List.map (AV.int .i64) v1)), (8, AV.int .i64 v6), (32, AV.bool (decide ((v1.length : Int) < v6)))] [] 0 (by simp [h2, h2_, h3, h3_, h4, h4_, h5, h5_]) (by simp [h2, h2_, h3, h3_, h4, h4_, h5, h5_]) (by simp) ?_
        by_cases h6 : (v1.length : Int) < v6
        · replace hF := ite_t h6 hF
          have h6_ := h6
          try simp at h6_
          refine AW.condT (by decide) (by first | (simp [h2, h2_, h3, h3_, h4, h4_, h5, h5_, h6, h6_]; done) | (simp [h2, h2_, h3, h3_, h4, h4_, h5, h5_, h6, h6_]; omega)) ?_
          refine AW.seqR mixed [] [none, none] (by kernel_rfl) fun G172 R172 hG172 hR172 => ?_
          try simp [h2, h2_, h3, h3_, h4, h4_, h5, h5_, h6, h6_]
          repeat' apply And.intro
          any_goals (first | exact hG172 _ (by kernel_rfl) | refine hR172 _ _ _ ?_ | omega | (unfold maxLen; omega) | (simp [h2, h2_, h3, h3_, h4, h4_, h5, h5_, h6, h6_]; done) | (simp [h2, h2_, h3, h3_, h4, h4_, h5, h5_, h6, h6_]; omega))
          refine AW.wk [(6, AV.lst true true (List.map (AV.int .i64) ([] : List Int))), (7, AV.int .i64 44)] [] 0 (by simp [h2, h2_, h3, h3_, h4, h4_, h5, h5_, h6, h6_]) (by simp [h2, h2_, h3, h3_, h4, h4_, h5, h5_, h6, h6_]) (by simp) ?_
          refine AW.own' 6 1 true (by simp [h2, h2_, h3, h3_, h4, h4_, h5, h5_, h6, h6_]) (by decide) ?_
          simp only [Option.some.injEq, Prod.mk.injEq] at hF
          obtain ⟨e0, e1⟩ := hF
          subst e0 e1
          refine AW.ret (hQ _ _ _ ?_ (matchO_0 ?_)).1
          · simp [Try.f51, h2, h2_, h3, h3_, h4, h4_, h5, h5_, h6, h6_]
          · simp [h2, h2_, h3, h3_, h4, h4_, h5, h5_, h6, h6_]
        · replace hF := ite_f h6 hF
          have h6_ := h6
          try simp at h6_
          refine AW.condF (by decide) (by first | (simp [h2, h2_, h3, h3_, h4, h4_, h5, h5_, h6, h6_]; done) | (simp [h2, h2_, h3, h3_, h4, h4_, h5, h5_, h6, h6_]; omega)) ?_
          refine AW.skip ?_
          refine hK168 _ _ _ ?_
          refine AW.seqR mixed [] [none, none, none] (by kernel_rfl) fun G173 R173 hG173 hR173 => ?_
          try simp [h2, h2_, h3, h3_, h4, h4_, h5, h5_, h6, h6_]
          repeat' apply And.intro
          try any_goals (first | omega | (unfold maxLen; omega) | (simp [h2, h2_, h3, h3_, h4, h4_, h5, h5_, h6, h6_]; done))
          obtain ⟨v7, h7, hF⟩ := bnd1_elim hF
          refine aCall_l (w_slices_Clone_int_int k _ _ h7) (by simp) [] [] [] rfl (.cons (.same (by simp [h2, h2_, h3, h3_, h4, h4_, h5, h5_, h6, h6_])) .nil) (by simp [h2, h2_, h3, h3_, h4, h4_, h5, h5_, h6, h6_]) (by decide) (by simp) (by simp) (.inl rfl) (by simp) (by simp) ?_
          try simp [h2, h2_, h3, h3_, h4, h4_, h5, h5_, h6, h6_]
          repeat' apply And.intro
          any_goals (first | exact hG173 _ (by kernel_rfl) | refine hR173 _ _ _ ?_ | omega | (unfold maxLen; omega) | (simp [h2, h2_, h3, h3_, h4, h4_, h5, h5_, h6, h6_]; done) | (simp [h2, h2_, h3, h3_, h4, h4_, h5, h5_, h6, h6_]; omega))
          refine AW.wk [(1, AV.lst false false (List.map (AV.int .i64) v1)), (8, AV.int .i64 v6), (9, AV.slc 0 0 1 v7.length false)] [(0, .grow (List.map (AV.int .i64) v7))] 1 (by simp [h2, h2_, h3, h3_, h4, h4_, h5, h5_, h6, h6_]) (by simp [h2, h2_, h3, h3_, h4, h4_, h5, h5_, h6, h6_]) (by simp) ?_
          refine AW.frz 0 (o := .grow (List.map (AV.int .i64) v7)) (by simp [h2, h2_, h3, h3_, h4, h4_, h5, h5_, h6, h6_]) rfl [(9, AV.lst false false (List.map (AV.int .i64) v7))] [] ⟨(.l (by simp) (by simp) (by simp) (by simp)), trivial⟩ trivial ?_
          refine AW.wk [(1, AV.lst false false (List.map (AV.int .i64) v1)), (8, AV.int .i64 v6), (9, AV.lst false false (List.map (AV.int .i64) v7))] [] 1 (by simp [h2, h2_, h3, h3_, h4, h4_, h5, h5_, h6, h6_]) (by simp [h2, h2_, h3, h3_, h4, h4_, h5, h5_, h6, h6_]) (by simp) ?_
          refine AW.seqR mixed [] [none] (by kernel_rfl) fun G174 R174 hG174 hR174 => ?_
          try simp [h2, h2_, h3, h3_, h4, h4_, h5, h5_, h6, h6_]
          repeat' apply And.intro
          any_goals (first | exact hG174 _ (by kernel_rfl) | refine hR174 _ _ _ ?_ | omega | (unfold maxLen; omega) | (simp [h2, h2_, h3, h3_, h4, h4_, h5, h5_, h6, h6_]; done) | (simp [h2, h2_, h3, h3_, h4, h4_, h5, h5_, h6, h6_]; omega))
          refine AW.wk [(1, AV.lst false false (List.map (AV.int .i64) v1)), (8, AV.int .i64 v6), (9, AV.lst false false (List.map (AV.int .i64) v7)), (10, AV.lst true true (List.map (AV.int .i64) ([] : List Int)))] [] 1 (by simp [h2, h2_, h3, h3_, h4, h4_, h5, h5_, h6, h6_]) (by simp [h2, h2_, h3, h3_, h4, h4_, h5, h5_, h6, h6_]) (by simp) ?_
          refine AW.seq fun K243 hK243 => ?_
          refine AW.seqR mixed [] [none, none, none, none, none] (by kernel_rfl) fun G244 R244 hG244 hR244 => ?_
          obtain ⟨⟨h8, h9⟩, hF⟩ := chk_elim hF
          have h8_ := h8
          try simp at h8_
          have h9_ := h9
          try simp at h9_
          try simp [h2, h2_, h3, h3_, h4, h4_, h5, h5_, h6, h6_, h8, h9, h8_, h9_]
          repeat' apply And.intro
          any_goals (first | exact hG244 _ (by kernel_rfl) | refine hR244 _ _ _ ?_ | omega | (unfold maxLen; omega) | (simp [h2, h2_, h3, h3_, h4, h4_, h5, h5_, h6, h6_, h8, h9, h8_, h9_]; done) | (simp [h2, h2_, h3, h3_, h4, h4_, h5, h5_, h6, h6_, h8, h9, h8_, h9_]; omega))
          refine AW.wk [(9, AV.lst false false (List.map (AV.int .i64) v7)), (10, AV.lst true true (List.map (AV.int .i64) ([] : List Int))), (37, AV.lst false false (List.map (AV.int .i64) (v1.take (v6).toNat))), (38, AV.int .i64 ((v1.take (v6).toNat).length : Int)), (39, AV.int .i64 0)] [] 1 (by simp [h2, h2_, h3, h3_, h4, h4_, h5, h5_, h6, h6_, h8, h9, h8_, h9_]) (by simp [h2, h2_, h3, h3_, h4, h4_, h5, h5_, h6, h6_, h8, h9, h8_, h9_]) (by simp) ?_
          refine AW.block ?_
          refine AW.own' 10 1 true (by simp [h2, h2_, h3, h3_, h4, h4_, h5, h5_, h6, h6_, h8, h9, h8_, h9_]) (by decide) ?_
          refine AW.rnm (m := 0) h0 [(0, 1)] [(9, AV.lst false false (List.map (AV.int .i64) v7)), (10, AV.slc 0 0 1 (([] : List Int).length) false), (37, AV.lst false false (List.map (AV.int .i64) (v1.take (v6).toNat))), (38, AV.int .i64 ((v1.take (v6).toNat).length : Int)), (39, AV.int .i64 0)] [(0, .grow (List.map (AV.int .i64) ([] : List Int)))] 1 (by decide) (by decide) (by decide) rfl (by simp [h2, h2_, h3, h3_, h4, h4_, h5, h5_, h6, h6_, h8, h9, h8_, h9_]) (by simp [h2, h2_, h3, h3_, h4, h4_, h5, h5_, h6, h6_, h8, h9, h8_, h9_]) ?_
          refine AW.loopF (α := ((List Int) × Int × (List Int))) (fun n (v8, v9, v10) => committee_Draw.L1 k v1 v6 n v8 v9 v10 = some (v3, v4)) (fun (v8, v9, v10) => [(9, AV.lst false false (List.map (AV.int .i64) v8)), (10, AV.slc 0 0 1 v10.length false), (37, AV.lst false false (List.map (AV.int .i64) (v1.take (v6).toNat))), (38, AV.int .i64 ((v1.take (v6).toNat).length : Int)), (39, AV.int .i64 v9)]) (fun (v8, v9, v10) => [(0, .grow (List.map (AV.int .i64) v10))]) 1 k ((v7, 0, ([] : List Int))) hF (by simp [h2, h2_, h3, h3_, h4, h4_, h5, h5_, h6, h6_, h8, h9, h8_, h9_]) (by simp [h2, h2_, h3, h3_, h4, h4_, h5, h5_, h6, h6_, h8, h9, h8_, h9_]) (by simp) ?_
          rintro (_|n1) ⟨v8, v9, v10⟩ hF K289 hK289
          · try dsimp only at hF
            rw [committee_Draw.L1] at hF; cases hF
          try dsimp only at hF
          rw [committee_Draw.L1] at hF
          refine AW.seqR mixed [] [none] (by kernel_rfl) fun G290 R290 hG290 hR290 => ?_
          try simp [h2, h2_, h3, h3_, h4, h4_, h5, h5_, h6, h6_, h8, h9, h8_, h9_]
          repeat' apply And.intro
          any_goals (first | exact hG290 _ (by kernel_rfl) | refine hR290 _ _ _ ?_ | omega | (unfold maxLen; omega) | (simp [h2, h2_, h3, h3_, h4, h4_, h5, h5_, h6, h6_, h8, h9, h8_, h9_]; done) | (simp [h2, h2_, h3, h3_, h4, h4_, h5, h5_, h6, h6_, h8, h9, h8_, h9_]; omega))
          refine AW.wk [(9, AV.lst false false (List.map (AV.int .i64) v8)), (10, AV.slc 0 0 1 v10.length false), (37, AV.lst false false (List.map (AV.int .i64) (v1.take (v6).toNat))), (38, AV.int .i64 ((v1.take (v6).toNat).length : Int)), (39, AV.int .i64 v9), (40, AV.bool (decide (v9 < ((v1.take (v6).toNat).length : Int))))] [(0, .grow (List.map (AV.int .i64) v10))] 1 (by simp [h2, h2_, h3, h3_, h4, h4_, h5, h5_, h6, h6_, h8, h9, h8_, h9_]) (by simp [h2, h2_, h3, h3_, h4, h4_, h5, h5_, h6, h6_, h8, h9, h8_, h9_]) (by simp) ?_
          refine AW.seq fun K291 hK291 => ?_
          by_cases h10 : v9 < ((v1.take (v6).toNat).length : Int)
          · replace hF := ite_t h10 hF
            have h10_ := h10
            try simp at h10_
            refine AW.condT (by decide) (by first | (simp [h2, h2_, h3, h3_, h4, h4_, h5, h5_, h6, h6_, h8, h9, h8_, h9_, h10, h10_]; done) | (simp [h2, h2_, h3, h3_, h4, h4_, h5, h5_, h6, h6_, h8, h9, h8_, h9_, h10, h10_]; omega)) ?_
            refine AW.skip ?_
            refine hK291 _ _ _ ?_
            refine AW.seq fun K301 hK301 => ?_
            refine AW.block ?_
            refine AW.seqR mixed [] [none, none, none] (by kernel_rfl) fun G302 R302 hG302 hR302 => ?_
            obtain ⟨v11, h11, h12, h13, hF⟩ := idx_elim hF
            have h13_ := get_of h13
            try simp at h13_
            have h12_ := h12
            try simp at h12_
            have h12t := h12
            rw [List.length_take] at h12t
            have h12u := (Nat.lt_min.1 h12t).1
            have h12v := (Nat.lt_min.1 h12t).2
            try simp [h2, h2_, h3, h3_, h4, h4_, h5, h5_, h6, h6_, h8, h9, h8_, h9_, h10, h10_, h11, h12, h13, h13_, h12_, h12u, h12v]
            repeat' apply And.intro
            any_goals (first | exact hG302 _ (by kernel_rfl) | refine hR302 _ _ _ ?_ | omega | (unfold maxLen; omega) | (simp [h2, h2_, h3, h3_, h4, h4_, h5, h5_, h6, h6_, h8, h9, h8_, h9_, h10, h10_, h11, h12, h13, h13_, h12_, h12u, h12v]; done) | (simp [h2, h2_, h3, h3_, h4, h4_, h5, h5_, h6, h6_, h8, h9, h8_, h9_, h10, h10_, h11, h12, h13, h13_, h12_, h12u, h12v]; omega))
            refine AW.wk [(9, AV.lst false false (List.map (AV.int .i64) v8)), (10, AV.slc 0 0 1 v10.length false), (12, AV.int .i64 v11), (37, AV.lst false false (List.map (AV.int .i64) (v1.take (v6).toNat))), (38, AV.int .i64 ((v1.take (v6).toNat).length : Int)), (39, AV.int .i64 v9)] [(0, .grow (List.map (AV.int .i64) v10))] 1 (by simp [h2, h2_, h3, h3_, h4, h4_, h5, h5_, h6, h6_, h8, h9, h8_, h9_, h10, h10_, h11, h12, h13, h13_, h12_, h12u, h12v]) (by simp [h2, h2_, h3, h3_, h4, h4_, h5, h5_, h6, h6_, h8, h9, h8_, h9_, h10, h10_, h11, h12, h13, h13_, h12_, h12u, h12v]) (by simp) ?_
            refine AW.seq fun K305 hK305 => ?_
            refine AW.seqR mixed [] [none, none] (by kernel_rfl) fun G306 R306 hG306 hR306 => ?_
            try simp [h2, h2_, h3, h3_, h4, h4_, h5, h5_, h6, h6_, h8, h9, h8_, h9_, h10, h10_, h11, h12, h13, h13_, h12_, h12u, h12v]
            repeat' apply And.intro
            any_goals (first | exact hG306 _ (by kernel_rfl) | refine hR306 _ _ _ ?_ | omega | (unfold maxLen; omega) | (simp [h2, h2_, h3, h3_, h4, h4_, h5, h5_, h6, h6_, h8, h9, h8_, h9_, h10, h10_, h11, h12, h13, h13_, h12_, h12u, h12v]; done) | (simp [h2, h2_, h3, h3_, h4, h4_, h5, h5_, h6, h6_, h8, h9, h8_, h9_, h10, h10_, h11, h12, h13, h13_, h12_, h12u, h12v]; omega))
            refine AW.wk [(9, AV.lst false false (List.map (AV.int .i64) v8)), (10, AV.slc 0 0 1 v10.length false), (12, AV.int .i64 v11), (37, AV.lst false false (List.map (AV.int .i64) (v1.take (v6).toNat))), (38, AV.int .i64 ((v1.take (v6).toNat).length : Int)), (39, AV.int .i64 v9), (44, AV.bool (decide (v11 < 0)))] [(0, .grow (List.map (AV.int .i64) v10))] 1 (by simp [h2, h2_, h3, h3_, h4, h4_, h5, h5_, h6, h6_, h8, h9, h8_, h9_, h10, h10_, h11, h12, h13, h13_, h12_, h12u, h12v]) (by simp [h2, h2_, h3, h3_, h4, h4_, h5, h5_, h6, h6_, h8, h9, h8_, h9_, h10, h10_, h11, h12, h13, h13_, h12_, h12u, h12v]) (by simp) ?_
            by_cases h14 : v11 < 0
            · replace hF := ite_t h14 hF
              have h14_ := h14
              try simp at h14_
              refine AW.condT (by decide) (by first | (simp [h2, h2_, h3, h3_, h4, h4_, h5, h5_, h6, h6_, h8, h9, h8_, h9_, h10, h10_, h11, h12, h13, h13_, h12_, h12u, h12v, h14, h14_]; done) | (simp [h2, h2_, h3, h3_, h4, h4_, h5, h5_, h6, h6_, h8, h9, h8_, h9_, h10, h10_, h11, h12, h13, h13_, h12_, h12u, h12v, h14, h14_]; omega)) ?_
              refine AW.seqR mixed [] [none, none] (by kernel_rfl) fun G307 R307 hG307 hR307 => ?_
              try simp [h2, h2_, h3, h3_, h4, h4_, h5, h5_, h6, h6_, h8, h9, h8_, h9_, h10, h10_, h11, h12, h13, h13_, h12_, h12u, h12v, h14, h14_]
              repeat' apply And.intro
              any_goals (first | exact hG307 _ (by kernel_rfl) | refine hR307 _ _ _ ?_ | omega | (unfold maxLen; omega) | (simp [h2, h2_, h3, h3_, h4, h4_, h5, h5_, h6, h6_, h8, h9, h8_, h9_, h10, h10_, h11, h12, h13, h13_, h12_, h12u, h12v, h14, h14_]; done) | (simp [h2, h2_, h3, h3_, h4, h4_, h5, h5_, h6, h6_, h8, h9, h8_, h9_, h10, h10_, h11, h12, h13, h13_, h12_, h12u, h12v, h14, h14_]; omega))
              refine AW.wk [(6, AV.lst true true (List.map (AV.int .i64) ([] : List Int))), (7, AV.int .i64 44)] [] 1 (by simp [h2, h2_, h3, h3_, h4, h4_, h5, h5_, h6, h6_, h8, h9, h8_, h9_, h10, h10_, h11, h12, h13, h13_, h12_, h12u, h12v, h14, h14_]) (by simp [h2, h2_, h3, h3_, h4, h4_, h5, h5_, h6, h6_, h8, h9, h8_, h9_, h10, h10_, h11, h12, h13, h13_, h12_, h12u, h12v, h14, h14_]) (by simp) ?_
              refine AW.own' 6 1 true (by simp [h2, h2_, h3, h3_, h4, h4_, h5, h5_, h6, h6_, h8, h9, h8_, h9_, h10, h10_, h11, h12, h13, h13_, h12_, h12u, h12v, h14, h14_]) (by decide) ?_
              refine AW.rnm (m := 0) h0 [(0, 1)] [(6, AV.slc 0 0 1 (([] : List Int).length) false), (7, AV.int .i64 44)] [(0, .grow (List.map (AV.int .i64) ([] : List Int)))] 1 (by decide) (by decide) (by decide) rfl (by simp [h2, h2_, h3, h3_, h4, h4_, h5, h5_, h6, h6_, h8, h9, h8_, h9_, h10, h10_, h11, h12, h13, h13_, h12_, h12u, h12v, h14, h14_]) (by simp [h2, h2_, h3, h3_, h4, h4_, h5, h5_, h6, h6_, h8, h9, h8_, h9_, h10, h10_, h11, h12, h13, h13_, h12_, h12u, h12v, h14, h14_]) ?_
              simp only [Option.some.injEq, Prod.mk.injEq] at hF
              obtain ⟨e0, e1⟩ := hF
              subst e0 e1
              refine AW.ret (hQ _ _ _ ?_ (matchO_0 ?_)).1
              · simp [Try.f51, h2, h2_, h3, h3_, h4, h4_, h5, h5_, h6, h6_, h8, h9, h8_, h9_, h10, h10_, h11, h12, h13, h13_, h12_, h12u, h12v, h14, h14_]
              · simp [h2, h2_, h3, h3_, h4, h4_, h5, h5_, h6, h6_, h8, h9, h8_, h9_, h10, h10_, h11, h12, h13, h13_, h12_, h12u, h12v, h14, h14_]
            · replace hF := ite_f h14 hF
              have h14_ := h14
              try simp at h14_
              refine AW.condF (by decide) (by first | (simp [h2, h2_, h3, h3_, h4, h4_, h5, h5_, h6, h6_, h8, h9, h8_, h9_, h10, h10_, h11, h12, h13, h13_, h12_, h12u, h12v, h14, h14_]; done) | (simp [h2, h2_, h3, h3_, h4, h4_, h5, h5_, h6, h6_, h8, h9, h8_, h9_, h10, h10_, h11, h12, h13, h13_, h12_, h12u, h12v, h14, h14_]; omega)) ?_
              refine AW.skip ?_
              refine hK305 _ _ _ ?_
              refine AW.seqR mixed [] [none, none, none, none, none] (by kernel_rfl) fun G308 R308 hG308 hR308 => ?_
              obtain ⟨h15, hF⟩ := chk_elim hF
              have h15_ := h15
              try simp at h15_
              try simp [h2, h2_, h3, h3_, h4, h4_, h5, h5_, h6, h6_, h8, h9, h8_, h9_, h10, h10_, h11, h12, h13, h13_, h12_, h12u, h12v, h14, h14_, h15, h15_]
              repeat' apply And.intro
              any_goals (first | exact hG308 _ (by kernel_rfl) | refine hR308 _ _ _ ?_ | omega | (unfold maxLen; omega) | (simp [h2, h2_, h3, h3_, h4, h4_, h5, h5_, h6, h6_, h8, h9, h8_, h9_, h10, h10_, h11, h12, h13, h13_, h12_, h12u, h12v, h14, h14_, h15, h15_]; done) | (simp [h2, h2_, h3, h3_, h4, h4_, h5, h5_, h6, h6_, h8, h9, h8_, h9_, h10, h10_, h11, h12, h13, h13_, h12_, h12u, h12v, h14, h14_, h15, h15_]; omega))
              refine AW.wk [(9, AV.lst false false (List.map (AV.int .i64) v8)), (10, AV.slc 0 0 1 v10.length false), (13, AV.int .i64 (Int.tmod v11 (v8.length : Int))), (37, AV.lst false false (List.map (AV.int .i64) (v1.take (v6).toNat))), (38, AV.int .i64 ((v1.take (v6).toNat).length : Int)), (39, AV.int .i64 v9)] [(0, .grow (List.map (AV.int .i64) v10))] 1 (by simp [h2, h2_, h3, h3_, h4, h4_, h5, h5_, h6, h6_, h8, h9, h8_, h9_, h10, h10_, h11, h12, h13, h13_, h12_, h12u, h12v, h14, h14_, h15, h15_]) (by simp [h2, h2_, h3, h3_, h4, h4_, h5, h5_, h6, h6_, h8, h9, h8_, h9_, h10, h10_, h11, h12, h13, h13_, h12_, h12u, h12v, h14, h14_, h15, h15_]) (by simp) ?_
              refine AW.seqR mixed [] [none, none, none, none, none, none, none, none] (by kernel_rfl) fun G309 R309 hG309 hR309 => ?_
              obtain ⟨v12, h16, h17, h18, hF⟩ := idx_elim hF
              have h18_ := get_of h18
              try simp at h18_
              have h17_ := h17
              try simp at h17_
              obtain ⟨h19, hF⟩ := chk_elim hF
              have h19_ := h19
              try simp at h19_
              try simp [h2, h2_, h3, h3_, h4, h4_, h5, h5_, h6, h6_, h8, h9, h8_, h9_, h10, h10_, h11, h12, h13, h13_, h12_, h12u, h12v, h14, h14_, h15, h15_, h16, h17, h18, h18_, h17_, h19]
              repeat' apply And.intro
              any_goals (first | exact hG309 _ (by kernel_rfl) | refine hR309 _ _ _ ?_ | omega | (unfold maxLen; omega) | (simp [h2, h2_, h3, h3_, h4, h4_, h5, h5_, h6, h6_, h8, h9, h8_, h9_, h10, h10_, h11, h12, h13, h13_, h12_, h12u, h12v, h14, h14_, h15, h15_, h16, h17, h18, h18_, h17_, h19]; done) | (simp [h2, h2_, h3, h3_, h4, h4_, h5, h5_, h6, h6_, h8, h9, h8_, h9_, h10, h10_, h11, h12, h13, h13_, h12_, h12u, h12v, h14, h14_, h15, h15_, h16, h17, h18, h18_, h17_, h19]; omega))
              refine AW.wk [(9, AV.lst false false (List.map (AV.int .i64) v8)), (10, AV.slc 1 0 1 ((v10 ++ ([v12] : List Int)).length) false), (13, AV.int .i64 (Int.tmod v11 (v8.length : Int))), (37, AV.lst false false (List.map (AV.int .i64) (v1.take (v6).toNat))), (38, AV.int .i64 ((v1.take (v6).toNat).length : Int)), (39, AV.int .i64 v9)] [(1, .grow (List.map (AV.int .i64) (v10 ++ ([v12] : List Int))))] 2 (by simp [h2, h2_, h3, h3_, h4, h4_, h5, h5_, h6, h6_, h8, h9, h8_, h9_, h10, h10_, h11, h12, h13, h13_, h12_, h12u, h12v, h14, h14_, h15, h15_, h16, h17, h18, h18_, h17_, h19]) (by simp [h2, h2_, h3, h3_, h4, h4_, h5, h5_, h6, h6_, h8, h9, h8_, h9_, h10, h10_, h11, h12, h13, h13_, h12_, h12u, h12v, h14, h14_, h15, h15_, h16, h17, h18, h18_, h17_, h19]) (by simp) ?_
              refine AW.region mixed [] [none, none, none, none, none, none, none, none, none, none] (by kernel_rfl) fun G310 R310 hG310 hR310 => ?_
              obtain ⟨⟨h20, h21⟩, hF⟩ := chk_elim hF
              have h20_ := h20
              try simp at h20_
              have h21_ := h21
              try simp at h21_
              obtain ⟨⟨h22, h23⟩, hF⟩ := chk_elim hF
              have h22_ := h22
              try simp at h22_
              have h23_ := h23
              try simp at h23_
              obtain ⟨h24, hF⟩ := chk_elim hF
              have h24_ := h24
              try simp at h24_
              try simp [h2, h2_, h3, h3_, h4, h4_, h5, h5_, h6, h6_, h8, h9, h8_, h9_, h10, h10_, h11, h12, h13, h13_, h12_, h12u, h12v, h14, h14_, h15, h15_, h16, h17, h18, h18_, h17_, h19, h20, h21, h20_, h21_, h22, h23, h22_, h23_, h24]
              repeat' apply And.intro
              any_goals (first | exact hG310 _ (by kernel_rfl) | refine hR310 _ _ _ ?_ | omega | (unfold maxLen; omega) | (simp [h2, h2_, h3, h3_, h4, h4_, h5, h5_, h6, h6_, h8, h9, h8_, h9_, h10, h10_, h11, h12, h13, h13_, h12_, h12u, h12v, h14, h14_, h15, h15_, h16, h17, h18, h18_, h17_, h19, h20, h21, h20_, h21_, h22, h23, h22_, h23_, h24]; done) | (simp [h2, h2_, h3, h3_, h4, h4_, h5, h5_, h6, h6_, h8, h9, h8_, h9_, h10, h10_, h11, h12, h13, h13_, h12_, h12u, h12v, h14, h14_, h15, h15_, h16, h17, h18, h18_, h17_, h19, h20, h21, h20_, h21_, h22, h23, h22_, h23_, h24]; omega))
              refine hK301 _ _ _ ?_
              refine AW.wk [(9, AV.lst false false (List.map (AV.int .i64) ((v8.take (Int.tmod v11 (v8.length : Int)).toNat) ++ (v8.drop (IntKind.wrap .i64 (Int.tmod v11 (v8.length : Int) + 1)).toNat)))), (10, AV.slc 1 0 1 ((v10 ++ ([v12] : List Int)).length) false), (37, AV.lst false false (List.map (AV.int .i64) (v1.take (v6).toNat))), (38, AV.int .i64 ((v1.take (v6).toNat).length : Int)), (39, AV.int .i64 v9)] [(1, .grow (List.map (AV.int .i64) (v10 ++ ([v12] : List Int))))] 2 (by simp [h2, h2_, h3, h3_, h4, h4_, h5, h5_, h6, h6_, h8, h9, h8_, h9_, h10, h10_, h11, h12, h13, h13_, h12_, h12u, h12v, h14, h14_, h15, h15_, h16, h17, h18, h18_, h17_, h19, h20, h21, h20_, h21_, h22, h23, h22_, h23_, h24]) (by simp [h2, h2_, h3, h3_, h4, h4_, h5, h5_, h6, h6_, h8, h9, h8_, h9_, h10, h10_, h11, h12, h13, h13_, h12_, h12u, h12v, h14, h14_, h15, h15_, h16, h17, h18, h18_, h17_, h19, h20, h21, h20_, h21_, h22, h23, h22_, h23_, h24]) (by simp) ?_
              refine AW.region mixed [] [none, none] (by kernel_rfl) fun G311 R311 hG311 hR311 => ?_
              try simp [h2, h2_, h3, h3_, h4, h4_, h5, h5_, h6, h6_, h8, h9, h8_, h9_, h10, h10_, h11, h12, h13, h13_, h12_, h12u, h12v, h14, h14_, h15, h15_, h16, h17, h18, h18_, h17_, h19, h20, h21, h20_, h21_, h22, h23, h22_, h23_, h24]
              repeat' apply And.intro
              any_goals (first | exact hG311 _ (by kernel_rfl) | refine hR311 _ _ _ ?_ | omega | (unfold maxLen; omega) | (simp [h2, h2_, h3, h3_, h4, h4_, h5, h5_, h6, h6_, h8, h9, h8_, h9_, h10, h10_, h11, h12, h13, h13_, h12_, h12u, h12v, h14, h14_, h15, h15_, h16, h17, h18, h18_, h17_, h19, h20, h21, h20_, h21_, h22, h23, h22_, h23_, h24]; done) | (simp [h2, h2_, h3, h3_, h4, h4_, h5, h5_, h6, h6_, h8, h9, h8_, h9_, h10, h10_, h11, h12, h13, h13_, h12_, h12u, h12v, h14, h14_, h15, h15_, h16, h17, h18, h18_, h17_, h19, h20, h21, h20_, h21_, h22, h23, h22_, h23_, h24]; omega))
              refine hK289 _ _ _ ?_
              refine Can.weak [(9, AV.lst false false (List.map (AV.int .i64) ((v8.take (Int.tmod v11 (v8.length : Int)).toNat) ++ (v8.drop (IntKind.wrap .i64 (Int.tmod v11 (v8.length : Int) + 1)).toNat)))), (10, AV.slc 1 0 1 ((v10 ++ ([v12] : List Int)).length) false), (37, AV.lst false false (List.map (AV.int .i64) (v1.take (v6).toNat))), (38, AV.int .i64 ((v1.take (v6).toNat).length : Int)), (39, AV.int .i64 (IntKind.wrap .i64 (v9 + 1)))] [(1, .grow (List.map (AV.int .i64) (v10 ++ ([v12] : List Int))))] 2 (by simp [h2, h2_, h3, h3_, h4, h4_, h5, h5_, h6, h6_, h8, h9, h8_, h9_, h10, h10_, h11, h12, h13, h13_, h12_, h12u, h12v, h14, h14_, h15, h15_, h16, h17, h18, h18_, h17_, h19, h20, h21, h20_, h21_, h22, h23, h22_, h23_, h24]) (by simp [h2, h2_, h3, h3_, h4, h4_, h5, h5_, h6, h6_, h8, h9, h8_, h9_, h10, h10_, h11, h12, h13, h13_, h12_, h12u, h12v, h14, h14_, h15, h15_, h16, h17, h18, h18_, h17_, h19, h20, h21, h20_, h21_, h22, h23, h22_, h23_, h24]) (by simp) ?_
              refine Can.ren (m := 0) h0 [(0, 1)] [(9, AV.lst false false (List.map (AV.int .i64) ((v8.take (Int.tmod v11 (v8.length : Int)).toNat) ++ (v8.drop (IntKind.wrap .i64 (Int.tmod v11 (v8.length : Int) + 1)).toNat)))), (10, AV.slc 0 0 1 ((v10 ++ ([v12] : List Int)).length) false), (37, AV.lst false false (List.map (AV.int .i64) (v1.take (v6).toNat))), (38, AV.int .i64 ((v1.take (v6).toNat).length : Int)), (39, AV.int .i64 (IntKind.wrap .i64 (v9 + 1)))] [(0, .grow (List.map (AV.int .i64) (v10 ++ ([v12] : List Int))))] 1 (by decide) (by decide) (by decide) rfl (by simp [h2, h2_, h3, h3_, h4, h4_, h5, h5_, h6, h6_, h8, h9, h8_, h9_, h10, h10_, h11, h12, h13, h13_, h12_, h12u, h12v, h14, h14_, h15, h15_, h16, h17, h18, h18_, h17_, h19, h20, h21, h20_, h21_, h22, h23, h22_, h23_, h24]) (by simp [h2, h2_, h3, h3_, h4, h4_, h5, h5_, h6, h6_, h8, h9, h8_, h9_, h10, h10_, h11, h12, h13, h13_, h12_, h12u, h12v, h14, h14_, h15, h15_, h16, h17, h18, h18_, h17_, h19, h20, h21, h20_, h21_, h22, h23, h22_, h23_, h24]) ?_
              exact Can.next (k' := n1) (((v8.take (Int.tmod v11 (v8.length : Int)).toNat) ++ (v8.drop (IntKind.wrap .i64 (Int.tmod v11 (v8.length : Int) + 1)).toNat), IntKind.wrap .i64 (v9 + 1), v10 ++ ([v12] : List Int))) (by omega) hF (by simp [h2, h2_, h3, h3_, h4, h4_, h5, h5_, h6, h6_, h8, h9, h8_, h9_, h10, h10_, h11, h12, h13, h13_, h12_, h12u, h12v, h14, h14_, h15, h15_, h16, h17, h18, h18_, h17_, h19, h20, h21, h20_, h21_, h22, h23, h22_, h23_, h24]) (by simp [h2, h2_, h3, h3_, h4, h4_, h5, h5_, h6, h6_, h8, h9, h8_, h9_, h10, h10_, h11, h12, h13, h13_, h12_, h12u, h12v, h14, h14_, h15, h15_, h16, h17, h18, h18_, h17_, h19, h20, h21, h20_, h21_, h22, h23, h22_, h23_, h24]) (by simp)
          · replace hF := ite_f h10 hF
            have h10_ := h10
            try simp at h10_
            refine AW.condF (by decide) (by first | (simp [h2, h2_, h3, h3_, h4, h4_, h5, h5_, h6, h6_, h8, h9, h8_, h9_, h10, h10_]; done) | (simp [h2, h2_, h3, h3_, h4, h4_, h5, h5_, h6, h6_, h8, h9, h8_, h9_, h10, h10_]; omega)) ?_
            refine AW.exit ?_
            try simp
            refine hK243 _ _ _ ?_
            refine AW.seqR mixed [] [none, none, none] (by kernel_rfl) fun G312 R312 hG312 hR312 => ?_
            try simp [h2, h2_, h3, h3_, h4, h4_, h5, h5_, h6, h6_, h8, h9, h8_, h9_, h10, h10_]
            repeat' apply And.intro
            any_goals (first | exact hG312 _ (by kernel_rfl) | refine hR312 _ _ _ ?_ | omega | (unfold maxLen; omega) | (simp [h2, h2_, h3, h3_, h4, h4_, h5, h5_, h6, h6_, h8, h9, h8_, h9_, h10, h10_]; done) | (simp [h2, h2_, h3, h3_, h4, h4_, h5, h5_, h6, h6_, h8, h9, h8_, h9_, h10, h10_]; omega))
            refine AW.wk [(6, AV.slc 0 0 1 v10.length false), (7, AV.int .i64 0)] [(0, .grow (List.map (AV.int .i64) v10))] 1 (by simp [h2, h2_, h3, h3_, h4, h4_, h5, h5_, h6, h6_, h8, h9, h8_, h9_, h10, h10_]) (by simp [h2, h2_, h3, h3_, h4, h4_, h5, h5_, h6, h6_, h8, h9, h8_, h9_, h10, h10_]) (by simp) ?_
            simp only [Option.some.injEq, Prod.mk.injEq] at hF
            obtain ⟨e0, e1⟩ := hF
            subst e0 e1
            refine AW.ret (hQ _ _ _ ?_ (matchO_0 ?_)).1
            · simp [Try.f51, h2, h2_, h3, h3_, h4, h4_, h5, h5_, h6, h6_, h8, h9, h8_, h9_, h10, h10_]
            · simp [h2, h2_, h3, h3_, h4, h4_, h5, h5_, h6, h6_, h8, h9, h8_, h9_, h10, h10_]
set_option maxHeartbeats 4000000 in
theorem w_committee_Quorum (k : Nat) (v0 : Int) (v1 : Int) (hF : committee_Quorum k v0 = some v1) :
    FCall Try.prog 60 [AV.int .i64 v0] [] (AV.int .i64 v1) [] := by
  unfold committee_Quorum at hF
  refine FCall.enter Try.func60 rfl (by simp) (by decide) (by simp) (by simp) (by simp) (by simp) (by simp) ?_
  intro c0 w0 Q h0 hQ
  refine AW.wk [(0, AV.int .i64 v0)] [] 0 (by simp) (by simp) (by simp) ?_
  refine AW.seqR mixed [] [none] (by kernel_rfl) fun G10 R10 hG10 hR10 => ?_
  try simp
  repeat' apply And.intro
  any_goals (first | exact hG10 _ (by kernel_rfl) | refine hR10 _ _ _ ?_ | omega | (unfold maxLen; omega) | (simp; done) | (simp; omega))
  refine AW.wk [(0, AV.int .i64 v0)] [] 0 (by simp) (by simp) (by simp) ?_
  refine AW.seq fun K14 hK14 => ?_
  refine AW.seqR mixed [] [none, none, none, some (5, false), some (5, false), none] (by kernel_rfl) fun G15 R15 hG15 hR15 => ?_
  by_cases h1 : v0 < 1
  · replace hF := ite_t h1 hF
    have h1_ := h1
    try simp at h1_
    try simp [h1, h1_]
    repeat' apply And.intro
    any_goals (first | exact hG15 _ (by kernel_rfl) | refine hR15 _ _ _ ?_ | omega | (unfold maxLen; omega) | (simp [h1, h1_]; done) | (simp [h1, h1_]; omega))
    refine AW.wk [(0, AV.int .i64 v0), (8, AV.bool true)] [] 0 (by simp [h1, h1_]) (by simp [h1, h1_]) (by simp) ?_
    refine AW.condT (by decide) (by simp [h1, h1_]) ?_
    refine AW.seqR mixed [] [none] (by kernel_rfl) fun G16 R16 hG16 hR16 => ?_
    try simp [h1, h1_]
    repeat' apply And.intro
    any_goals (first | exact hG16 _ (by kernel_rfl) | refine hR16 _ _ _ ?_ | omega | (unfold maxLen; omega) | (simp [h1, h1_]; done) | (simp [h1, h1_]; omega))
    refine AW.wk [(2, AV.int .i64 0)] [] 0 (by simp [h1, h1_]) (by simp [h1, h1_]) (by simp) ?_
    simp only [Option.some.injEq] at hF
    subst hF
    refine AW.ret (hQ _ _ _ ?_ (matchO_0 ?_)).1
    · simp [Try.f60, h1, h1_]
    · simp [h1, h1_]
  · replace hF := ite_f h1 hF
    have h1_ := h1
    try simp at h1_
    try simp [h1, h1_]
    repeat' apply And.intro
    any_goals (first | exact hG15 _ (by kernel_rfl) | refine hR15 _ _ _ ?_ | omega | (unfold maxLen; omega) | (simp [h1, h1_]; done) | (simp [h1, h1_]; omega))
    refine AW.wk [(0, AV.int .i64 v0), (8, AV.bool (decide (9 < v0)))] [] 0 (by simp [h1, h1_]) (by simp [h1, h1_]) (by simp) ?_
    by_cases h2 : 9 < v0
    · replace hF := ite_t h2 hF
      have h2_ := h2
      try simp at h2_
      refine AW.condT (by decide) (by first | (simp [h1, h1_, h2, h2_]; done) | (simp [h1, h1_, h2, h2_]; omega)) ?_
      refine AW.seqR mixed [] [none] (by kernel_rfl) fun G17 R17 hG17 hR17 => ?_
      try simp [h1, h1_, h2, h2_]
      repeat' apply And.intro
      any_goals (first | exact hG17 _ (by kernel_rfl) | refine hR17 _ _ _ ?_ | omega | (unfold maxLen; omega) | (simp [h1, h1_, h2, h2_]; done) | (simp [h1, h1_, h2, h2_]; omega))
      refine AW.wk [(2, AV.int .i64 0)] [] 0 (by simp [h1, h1_, h2, h2_]) (by simp [h1, h1_, h2, h2_]) (by simp) ?_
      simp only [Option.some.injEq] at hF
      subst hF
      refine AW.ret (hQ _ _ _ ?_ (matchO_0 ?_)).1
      · simp [Try.f60, h1, h1_, h2, h2_]
      · simp [h1, h1_, h2, h2_]
    · replace hF := ite_f h2 hF
      have h2_ := h2
      try simp at h2_
      refine AW.condF (by decide) (by first | (simp [h1, h1_, h2, h2_]; done) | (simp [h1, h1_, h2, h2_]; omega)) ?_
      refine AW.skip ?_
      refine hK14 _ _ _ ?_
      refine AW.seqR mixed [] [none, none, none, none, none] (by kernel_rfl) fun G18 R18 hG18 hR18 => ?_
      try simp [h1, h1_, h2, h2_]
      repeat' apply And.intro
      any_goals (first | exact hG18 _ (by kernel_rfl) | refine hR18 _ _ _ ?_ | omega | (unfold maxLen; omega) | (simp [h1, h1_, h2, h2_]; done) | (simp [h1, h1_, h2, h2_]; omega))
      refine AW.wk [(2, AV.int .i64 (IntKind.wrap .i64 (IntKind.wrap .i64 (Int.tdiv (IntKind.wrap .i64 (3 * v0)) 4) + 1)))] [] 0 (by simp [h1, h1_, h2, h2_]) (by simp [h1, h1_, h2, h2_]) (by simp) ?_
      simp only [Option.some.injEq] at hF
      subst hF
      refine AW.ret (hQ _ _ _ ?_ (matchO_0 ?_)).1
      · simp [Try.f60, h1, h1_, h2, h2_]
      · simp [h1, h1_, h2, h2_]
set_option maxHeartbeats 4000000 in
theorem w_law26_awake (k : Nat) (v0 : Bool) (hF : law26_awake k = some v0) :
    FCall Try.prog 52 [] [] (AV.bool v0) [] := by
  unfold law26_awake at hF
  refine FCall.enter Try.func52 rfl (by simp) (by decide) (by simp) (by simp) (by simp) (by simp) (by simp) ?_
  intro c0 w0 Q h0 hQ
  refine AW.wk [] [] 0 (by simp) (by simp) (by simp) ?_
  refine AW.seqR mixed [] [none] (by kernel_rfl) fun G4 R4 hG4 hR4 => ?_
  try simp
  repeat' apply And.intro
  any_goals (first | exact hG4 _ (by kernel_rfl) | refine hR4 _ _ _ ?_ | omega | (unfold maxLen; omega) | (simp; done) | (simp; omega))
  refine AW.wk [] [] 0 (by simp) (by simp) (by simp) ?_
  refine AW.seqR mixed [] [none, none, none, none, none, none, none, none] (by kernel_rfl) fun G5 R5 hG5 hR5 => ?_
  try simp
  repeat' apply And.intro
  try any_goals (first | omega | (unfold maxLen; omega) | (simp; done))
  obtain ⟨v1, v2, h1, hF⟩ := bnd2_elim hF
  refine aCall_l (w_committee_Draw k _ _ _ _ _ h1) (by simp) [] [] [] rfl (.cons (Coe.fl (by simp)) (.cons (Coe.fl (by simp)) (.cons (.same (by simp)) .nil))) (by simp) (by decide) (by simp) (by simp) (.inl rfl) (by simp) (by simp) ?_
  try simp
  repeat' apply And.intro
  any_goals (first | exact hG5 _ (by kernel_rfl) | refine hR5 _ _ _ ?_ | omega | (unfold maxLen; omega) | (simp; done) | (simp; omega))
  refine AW.wk [(1, AV.slc 0 0 1 v1.length false), (2, AV.int .i64 v2)] [(0, .grow (List.map (AV.int .i64) v1))] 1 (by simp) (by simp) (by simp) ?_
  refine AW.frz 0 (o := .grow (List.map (AV.int .i64) v1)) (by simp) rfl [(1, AV.lst false false (List.map (AV.int .i64) v1))] [] ⟨(.l (by simp) (by simp) (by simp) (by simp)), trivial⟩ trivial ?_
  refine AW.wk [(1, AV.lst false false (List.map (AV.int .i64) v1)), (2, AV.int .i64 v2)] [] 1 (by simp) (by simp) (by simp) ?_
  refine AW.seqR mixed [] [none, none, none, some (11, true), some (11, true), some (11, true), none, none, some (16, true), some (16, true), none, none, some (20, true), some (20, true), none, none, some (24, true), some (24, true), none, none] (by kernel_rfl) fun G6 R6 hG6 hR6 => ?_
  by_cases h2 : v2 = 0
  · replace hF := ite_t h2 hF
    have h2q : v2 = 0 := h2
    have h2_ := eqb_t h2q
    have h2__ := neb_f h2q
    try simp [h2_, h2__, h2q]
    repeat' apply And.intro
    try any_goals (first | omega | (unfold maxLen; omega) | (simp [h2_, h2__, h2q]; done))
    obtain ⟨v3, h3, hF⟩ := bnd1_elim hF
    refine aCall_l (w_ref23_SameInts k _ _ _ h3) (by simp) [] [] [] rfl (.cons (.same (by simp [h2_, h2__, h2q])) (.cons (Coe.fl (by simp [h2_, h2__, h2q])) .nil)) (by simp [h2_, h2__, h2q]) (by decide) (by simp) (by simp) (.inl rfl) (by simp) (by simp) ?_
    by_cases h4 : v3 = true
    · replace hF := ite_t h4 hF
      have h4_ := h4
      try simp at h4_
      try simp [h2_, h2__, h2q, h4, h4_]
      repeat' apply And.intro
      try any_goals (first | omega | (unfold maxLen; omega) | (simp [h2_, h2__, h2q, h4, h4_]; done))
      obtain ⟨v4, h5, hF⟩ := bnd1_elim hF
      refine aCall_l (w_committee_Quorum k _ _ h5) (by simp) [] [] [] rfl (.cons (.same (by simp [h2_, h2__, h2q, h4, h4_])) .nil) (by simp [h2_, h2__, h2q, h4, h4_]) (by decide) (by simp) (by simp) (.inl rfl) (by simp) (by simp) ?_
      by_cases h6 : v4 = 4
      · replace hF := ite_t h6 hF
        have h6q : v4 = 4 := h6
        have h6_ := eqb_t h6q
        have h6__ := neb_f h6q
        try simp [h2_, h2__, h2q, h4, h4_, h6_, h6__, h6q]
        repeat' apply And.intro
        try any_goals (first | omega | (unfold maxLen; omega) | (simp [h2_, h2__, h2q, h4, h4_, h6_, h6__, h6q]; done))
        obtain ⟨v5, h7, hF⟩ := bnd1_elim hF
        refine aCall_l (w_committee_Quorum k _ _ h7) (by simp) [] [] [] rfl (.cons (.same (by simp [h2_, h2__, h2q, h4, h4_, h6_, h6__, h6q])) .nil) (by simp [h2_, h2__, h2q, h4, h4_, h6_, h6__, h6q]) (by decide) (by simp) (by simp) (.inl rfl) (by simp) (by simp) ?_
        by_cases h8 : v5 = 4
        · replace hF := ite_t h8 hF
          have h8q : v5 = 4 := h8
          have h8_ := eqb_t h8q
          have h8__ := neb_f h8q
          try simp [h2_, h2__, h2q, h4, h4_, h6_, h6__, h6q, h8_, h8__, h8q]
          repeat' apply And.intro
          try any_goals (first | omega | (unfold maxLen; omega) | (simp [h2_, h2__, h2q, h4, h4_, h6_, h6__, h6q, h8_, h8__, h8q]; done))
          obtain ⟨v6, h9, hF⟩ := bnd1_elim hF
          refine aCall_l (w_committee_Quorum k _ _ h9) (by simp) [] [] [] rfl (.cons (.same (by simp [h2_, h2__, h2q, h4, h4_, h6_, h6__, h6q, h8_, h8__, h8q])) .nil) (by simp [h2_, h2__, h2q, h4, h4_, h6_, h6__, h6q, h8_, h8__, h8q]) (by decide) (by simp) (by simp) (.inl rfl) (by simp) (by simp) ?_
          try simp [h2_, h2__, h2q, h4, h4_, h6_, h6__, h6q, h8_, h8__, h8q]
          repeat' apply And.intro
          any_goals (first | exact hG6 _ (by kernel_rfl) | refine hR6 _ _ _ ?_ | omega | (unfold maxLen; omega) | (simp [h2_, h2__, h2q, h4, h4_, h6_, h6__, h6q, h8_, h8__, h8q]; done) | (simp [h2_, h2__, h2q, h4, h4_, h6_, h6__, h6q, h8_, h8__, h8q]; omega))
          refine AW.wk [(0, AV.bool (v6 == 6))] [] 1 (by simp [h2_, h2__, h2q, h4, h4_, h6_, h6__, h6q, h8_, h8__, h8q]) (by simp [h2_, h2__, h2q, h4, h4_, h6_, h6__, h6q, h8_, h8__, h8q]) (by simp) ?_
          simp only [Option.some.injEq] at hF
          subst hF
          refine AW.ret (hQ _ _ _ ?_ (matchO_0 ?_)).1
          · simp [Try.f52, h2_, h2__, h2q, h4, h4_, h6_, h6__, h6q, h8_, h8__, h8q]
          · simp [h2_, h2__, h2q, h4, h4_, h6_, h6__, h6q, h8_, h8__, h8q]
        · replace hF := ite_f h8 hF
          have h8_ := eqb_f h8
          have h8__ := neb_t h8
          try simp [h2_, h2__, h2q, h4, h4_, h6_, h6__, h6q, h8, h8_, h8__]
          repeat' apply And.intro
          any_goals (first | exact hG6 _ (by kernel_rfl) | refine hR6 _ _ _ ?_ | omega | (unfold maxLen; omega) | (simp [h2_, h2__, h2q, h4, h4_, h6_, h6__, h6q, h8, h8_, h8__]; done) | (simp [h2_, h2__, h2q, h4, h4_, h6_, h6__, h6q, h8, h8_, h8__]; omega))
          refine AW.wk [(0, AV.bool false)] [] 1 (by simp [h2_, h2__, h2q, h4, h4_, h6_, h6__, h6q, h8, h8_, h8__]) (by simp [h2_, h2__, h2q, h4, h4_, h6_, h6__, h6q, h8, h8_, h8__]) (by simp) ?_
          simp only [Option.some.injEq] at hF
          subst hF
          refine AW.ret (hQ _ _ _ ?_ (matchO_0 ?_)).1
          · simp [Try.f52, h2_, h2__, h2q, h4, h4_, h6_, h6__, h6q, h8, h8_, h8__]
          · simp [h2_, h2__, h2q, h4, h4_, h6_, h6__, h6q, h8, h8_, h8__]
      · replace hF := ite_f h6 hF
        have h6_ := eqb_f h6
        have h6__ := neb_t h6
        try simp [h2_, h2__, h2q, h4, h4_, h6, h6_, h6__]
        repeat' apply And.intro
        any_goals (first | exact hG6 _ (by kernel_rfl) | refine hR6 _ _ _ ?_ | omega | (unfold maxLen; omega) | (simp [h2_, h2__, h2q, h4, h4_, h6, h6_, h6__]; done) | (simp [h2_, h2__, h2q, h4, h4_, h6, h6_, h6__]; omega))
        refine AW.wk [(0, AV.bool false)] [] 1 (by simp [h2_, h2__, h2q, h4, h4_, h6, h6_, h6__]) (by simp [h2_, h2__, h2q, h4, h4_, h6, h6_, h6__]) (by simp) ?_
        simp only [Option.some.injEq] at hF
        subst hF
        refine AW.ret (hQ _ _ _ ?_ (matchO_0 ?_)).1
        · simp [Try.f52, h2_, h2__, h2q, h4, h4_, h6, h6_, h6__]
        · simp [h2_, h2__, h2q, h4, h4_, h6, h6_, h6__]
    · replace hF := ite_f h4 hF
      have h4_ := h4
      try simp at h4_
      try simp [h2_, h2__, h2q, h4, h4_]
      repeat' apply And.intro
      any_goals (first | exact hG6 _ (by kernel_rfl) | refine hR6 _ _ _ ?_ | omega | (unfold maxLen; omega) | (simp [h2_, h2__, h2q, h4, h4_]; done) | (simp [h2_, h2__, h2q, h4, h4_]; omega))
      refine AW.wk [(0, AV.bool false)] [] 1 (by simp [h2_, h2__, h2q, h4, h4_]) (by simp [h2_, h2__, h2q, h4, h4_]) (by simp) ?_
      simp only [Option.some.injEq] at hF
      subst hF
      refine AW.ret (hQ _ _ _ ?_ (matchO_0 ?_)).1
      · simp [Try.f52, h2_, h2__, h2q, h4, h4_]
      · simp [h2_, h2__, h2q, h4, h4_]
  · replace hF := ite_f h2 hF
    have h2_ := eqb_f h2
    have h2__ := neb_t h2
    try simp [h2, h2_, h2__]
    repeat' apply And.intro
    any_goals (first | exact hG6 _ (by kernel_rfl) | refine hR6 _ _ _ ?_ | omega | (unfold maxLen; omega) | (simp [h2, h2_, h2__]; done) | (simp [h2, h2_, h2__]; omega))
    refine AW.wk [(0, AV.bool false)] [] 1 (by simp [h2, h2_, h2__]) (by simp [h2, h2_, h2__]) (by simp) ?_
    simp only [Option.some.injEq] at hF
    subst hF
    refine AW.ret (hQ _ _ _ ?_ (matchO_0 ?_)).1
    · simp [Try.f52, h2, h2_, h2__]
    · simp [h2, h2_, h2__]
set_option maxHeartbeats 4000000 in
theorem w_ref24_Join (k : Nat) (v0 : (List Int)) (v1 : (List Int)) (v2 : (List Int)) (hF : ref24_Join k v0 v1 = some v2) :
    FCall Try.prog 53 [AV.lst false false (List.map (AV.int .i64) v0), AV.lst false false (List.map (AV.int .i64) v1)] [] (AV.slc 0 0 1 v2.length false) [some (.grow (List.map (AV.int .i64) v2))] := by
  unfold ref24_Join at hF
  refine FCall.enter Try.func53 rfl (by simp) (by decide) (by simp) (by simp) (by simp) (by simp) (by simp) ?_
  intro c0 w0 Q h0 hQ
  refine AW.wk [(0, AV.lst false false (List.map (AV.int .i64) v0)), (1, AV.lst false false (List.map (AV.int .i64) v1))] [] 0 (by simp) (by simp) (by simp) ?_
  refine AW.seqR mixed [] [none] (by kernel_rfl) fun G75 R75 hG75 hR75 => ?_
  try simp
  repeat' apply And.intro
  any_goals (first | exact hG75 _ (by kernel_rfl) | refine hR75 _ _ _ ?_ | omega | (unfold maxLen; omega) | (simp; done) | (simp; omega))
  refine AW.wk [(0, AV.lst false false (List.map (AV.int .i64) v0)), (1, AV.lst false false (List.map (AV.int .i64) v1))] [] 0 (by simp) (by simp) (by simp) ?_
  refine AW.seqR mixed [] [none] (by kernel_rfl) fun G76 R76 hG76 hR76 => ?_
  try simp
  repeat' apply And.intro
  any_goals (first | exact hG76 _ (by kernel_rfl) | refine hR76 _ _ _ ?_ | omega | (unfold maxLen; omega) | (simp; done) | (simp; omega))
  refine AW.wk [(0, AV.lst false false (List.map (AV.int .i64) v0)), (1, AV.lst false false (List.map (AV.int .i64) v1)), (5, AV.lst true true (List.map (AV.int .i64) ([] : List Int)))] [] 0 (by simp) (by simp) (by simp) ?_
  refine AW.seq fun K112 hK112 => ?_
  refine AW.seqR mixed [] [none] (by kernel_rfl) fun G113 R113 hG113 hR113 => ?_
  try simp
  repeat' apply And.intro
  any_goals (first | exact hG113 _ (by kernel_rfl) | refine hR113 _ _ _ ?_ | omega | (unfold maxLen; omega) | (simp; done) | (simp; omega))
  refine AW.wk [(0, AV.lst false false (List.map (AV.int .i64) v0)), (1, AV.lst false false (List.map (AV.int .i64) v1)), (5, AV.lst true true (List.map (AV.int .i64) ([] : List Int))), (6, AV.int .i64 0)] [] 0 (by simp) (by simp) (by simp) ?_
  refine AW.block ?_
  refine AW.own' 5 1 true (by simp) (by decide) ?_
  refine AW.loopF (α := (Int × (List Int))) (fun n (v3, v4) => ref24_Join.L1 k v0 v1 n v3 v4 = some v2) (fun (v3, v4) => [(0, AV.lst false false (List.map (AV.int .i64) v0)), (1, AV.lst false false (List.map (AV.int .i64) v1)), (5, AV.slc 0 0 1 v4.length false), (6, AV.int .i64 v3)]) (fun (v3, v4) => [(0, .grow (List.map (AV.int .i64) v4))]) 1 k ((0, ([] : List Int))) hF (by simp) (by simp) (by simp) ?_
  rintro (_|n1) ⟨v3, v4⟩ hF K136 hK136
  · try dsimp only at hF
    rw [ref24_Join.L1] at hF; cases hF
  try dsimp only at hF
  rw [ref24_Join.L1] at hF
  refine AW.seq fun K138 hK138 => ?_
  refine AW.seqR mixed [] [none, none] (by kernel_rfl) fun G139 R139 hG139 hR139 => ?_
  try simp
  repeat' apply And.intro
  any_goals (first | exact hG139 _ (by kernel_rfl) | refine hR139 _ _ _ ?_ | omega | (unfold maxLen; omega) | (simp; done) | (simp; omega))
  refine AW.wk [(0, AV.lst false false (List.map (AV.int .i64) v0)), (1, AV.lst false false (List.map (AV.int .i64) v1)), (5, AV.slc 0 0 1 v4.length false), (6, AV.int .i64 v3), (8, AV.bool (decide (v3 < 64)))] [(0, .grow (List.map (AV.int .i64) v4))] 1 (by simp) (by simp) (by simp) ?_
  by_cases h1 : v3 < 64
  · replace hF := ite_t h1 hF
    have h1_ := h1
    try simp at h1_
    refine AW.condT (by decide) (by first | (simp [h1, h1_]; done) | (simp [h1, h1_]; omega)) ?_
    refine AW.skip ?_
    refine hK138 _ _ _ ?_
    refine AW.midF (α := (List Int)) (fun v5 => ref24_Join.J2 k v3 (fun v3_ v4_ => ref24_Join.L1 k v0 v1 n1 v3_ v4_) v5 = some v2) (fun v5 => [(0, AV.lst false false (List.map (AV.int .i64) v0)), (1, AV.lst false false (List.map (AV.int .i64) v1)), (5, AV.slc 0 0 1 v5.length false), (6, AV.int .i64 v3)]) (fun v5 => [(0, .grow (List.map (AV.int .i64) v5))]) 1 (fun K144 hK144 => ?_) ?_
    · refine AW.block ?_
      refine AW.seqR mixed [] [none, none, none, none, some (14, false), some (14, false), some (14, false), none] (by kernel_rfl) fun G145 R145 hG145 hR145 => ?_
      try simp [h1, h1_]
      repeat' apply And.intro
      try any_goals (first | omega | (unfold maxLen; omega) | (simp [h1, h1_]; done))
      obtain ⟨v6, h2, hF⟩ := bnd1_elim hF
      refine aCall_l (w_ref24_Has k _ _ _ h2) (by simp) [] [] [] rfl (.cons (.same (by simp [h1, h1_])) (.cons (.same (by simp [h1, h1_])) .nil)) (by simp [h1, h1_]) (by decide) (by simp) (by simp) (.inl rfl) (by simp) (by simp) ?_
      by_cases h3 : v6 = true
      · replace hF := ite_t h3 hF
        have h3_ := h3
        try simp at h3_
        try simp [h1, h1_, h3, h3_]
        repeat' apply And.intro
        any_goals (first | exact hG145 _ (by kernel_rfl) | refine hR145 _ _ _ ?_ | omega | (unfold maxLen; omega) | (simp [h1, h1_, h3, h3_]; done) | (simp [h1, h1_, h3, h3_]; omega))
        refine AW.wk [(0, AV.lst false false (List.map (AV.int .i64) v0)), (1, AV.lst false false (List.map (AV.int .i64) v1)), (5, AV.slc 0 0 1 v4.length false), (6, AV.int .i64 v3), (18, AV.bool true)] [(0, .grow (List.map (AV.int .i64) v4))] 1 (by simp [h1, h1_, h3, h3_]) (by simp [h1, h1_, h3, h3_]) (by simp) ?_
        refine AW.condT (by decide) (by simp [h1, h1_, h3, h3_]) ?_
        refine AW.region mixed [] [none, none, none, none, none] (by kernel_rfl) fun G146 R146 hG146 hR146 => ?_
        obtain ⟨h4, hF⟩ := chk_elim hF
        have h4_ := h4
        try simp at h4_
        try simp [h1, h1_, h3, h3_, h4]
        repeat' apply And.intro
        any_goals (first | exact hG146 _ (by kernel_rfl) | refine hR146 _ _ _ ?_ | omega | (unfold maxLen; omega) | (simp [h1, h1_, h3, h3_, h4]; done) | (simp [h1, h1_, h3, h3_, h4]; omega))
        refine hK144 _ _ _ ?_
        refine Can.weak [(0, AV.lst false false (List.map (AV.int .i64) v0)), (1, AV.lst false false (List.map (AV.int .i64) v1)), (5, AV.slc 1 0 1 ((v4 ++ ([v3] : List Int)).length) false), (6, AV.int .i64 v3)] [(1, .grow (List.map (AV.int .i64) (v4 ++ ([v3] : List Int))))] 2 (by simp [h1, h1_, h3, h3_, h4]) (by simp [h1, h1_, h3, h3_, h4]) (by simp) ?_
        refine Can.ren (m := 0) h0 [(0, 1)] [(0, AV.lst false false (List.map (AV.int .i64) v0)), (1, AV.lst false false (List.map (AV.int .i64) v1)), (5, AV.slc 0 0 1 ((v4 ++ ([v3] : List Int)).length) false), (6, AV.int .i64 v3)] [(0, .grow (List.map (AV.int .i64) (v4 ++ ([v3] : List Int))))] 1 (by decide) (by decide) (by decide) rfl (by simp [h1, h1_, h3, h3_, h4]) (by simp [h1, h1_, h3, h3_, h4]) ?_
        exact Can.join (v4 ++ ([v3] : List Int)) hF (by simp [h1, h1_, h3, h3_, h4]) (by simp [h1, h1_, h3, h3_, h4]) (by simp)
      · replace hF := ite_f h3 hF
        have h3_ := h3
        try simp at h3_
        try simp [h1, h1_, h3, h3_]
        repeat' apply And.intro
        try any_goals (first | omega | (unfold maxLen; omega) | (simp [h1, h1_, h3, h3_]; done))
        obtain ⟨v7, h5, hF⟩ := bnd1_elim hF
        refine aCall_l (w_ref24_Has k _ _ _ h5) (by simp) [] [] [] rfl (.cons (.same (by simp [h1, h1_, h3, h3_])) (.cons (.same (by simp [h1, h1_, h3, h3_])) .nil)) (by simp [h1, h1_, h3, h3_]) (by decide) (by simp) (by simp) (.inl rfl) (by simp) (by simp) ?_
        try simp [h1, h1_, h3, h3_]
        repeat' apply And.intro
        any_goals (first | exact hG145 _ (by kernel_rfl) | refine hR145 _ _ _ ?_ | omega | (unfold maxLen; omega) | (simp [h1, h1_, h3, h3_]; done) | (simp [h1, h1_, h3, h3_]; omega))
        refine AW.wk [(0, AV.lst false false (List.map (AV.int .i64) v0)), (1, AV.lst false false (List.map (AV.int .i64) v1)), (5, AV.slc 0 0 1 v4.length false), (6, AV.int .i64 v3), (18, AV.bool v7)] [(0, .grow (List.map (AV.int .i64) v4))] 1 (by simp [h1, h1_, h3, h3_]) (by simp [h1, h1_, h3, h3_]) (by simp) ?_
        by_cases h6 : v7 = true
        · replace hF := ite_t h6 hF
          have h6_ := h6
          try simp at h6_
          refine AW.condT (by decide) (by first | (simp [h1, h1_, h3, h3_, h6, h6_]; done) | (simp [h1, h1_, h3, h3_, h6, h6_]; omega)) ?_
          refine AW.region mixed [] [none, none, none, none, none] (by kernel_rfl) fun G147 R147 hG147 hR147 => ?_
          obtain ⟨h7, hF⟩ := chk_elim hF
          have h7_ := h7
          try simp at h7_
          try simp [h1, h1_, h3, h3_, h6, h6_, h7]
          repeat' apply And.intro
          any_goals (first | exact hG147 _ (by kernel_rfl) | refine hR147 _ _ _ ?_ | omega | (unfold maxLen; omega) | (simp [h1, h1_, h3, h3_, h6, h6_, h7]; done) | (simp [h1, h1_, h3, h3_, h6, h6_, h7]; omega))
          refine hK144 _ _ _ ?_
          refine Can.weak [(0, AV.lst false false (List.map (AV.int .i64) v0)), (1, AV.lst false false (List.map (AV.int .i64) v1)), (5, AV.slc 1 0 1 ((v4 ++ ([v3] : List Int)).length) false), (6, AV.int .i64 v3)] [(1, .grow (List.map (AV.int .i64) (v4 ++ ([v3] : List Int))))] 2 (by simp [h1, h1_, h3, h3_, h6, h6_, h7]) (by simp [h1, h1_, h3, h3_, h6, h6_, h7]) (by simp) ?_
          refine Can.ren (m := 0) h0 [(0, 1)] [(0, AV.lst false false (List.map (AV.int .i64) v0)), (1, AV.lst false false (List.map (AV.int .i64) v1)), (5, AV.slc 0 0 1 ((v4 ++ ([v3] : List Int)).length) false), (6, AV.int .i64 v3)] [(0, .grow (List.map (AV.int .i64) (v4 ++ ([v3] : List Int))))] 1 (by decide) (by decide) (by decide) rfl (by simp [h1, h1_, h3, h3_, h6, h6_, h7]) (by simp [h1, h1_, h3, h3_, h6, h6_, h7]) ?_
          exact Can.join (v4 ++ ([v3] : List Int)) hF (by simp [h1, h1_, h3, h3_, h6, h6_, h7]) (by simp [h1, h1_, h3, h3_, h6, h6_, h7]) (by simp)
        · replace hF := ite_f h6 hF
          have h6_ := h6
          try simp at h6_
          refine AW.condF (by decide) (by first | (simp [h1, h1_, h3, h3_, h6, h6_]; done) | (simp [h1, h1_, h3, h3_, h6, h6_]; omega)) ?_
          refine AW.skip ?_
          refine hK144 _ _ _ ?_
          exact Can.join (v4) hF (by simp [h1, h1_, h3, h3_, h6, h6_]) (by simp [h1, h1_, h3, h3_, h6, h6_]) (by simp)
    · rintro v5 hF
      try dsimp only at hF
      unfold ref24_Join.J2 at hF
      refine AW.region mixed [] [none, none, none] (by kernel_rfl) fun G143 R143 hG143 hR143 => ?_
      try simp [h1, h1_]
      repeat' apply And.intro
      any_goals (first | exact hG143 _ (by kernel_rfl) | refine hR143 _ _ _ ?_ | omega | (unfold maxLen; omega) | (simp [h1, h1_]; done) | (simp [h1, h1_]; omega))
      refine hK136 _ _ _ ?_
      refine Can.weak [(0, AV.lst false false (List.map (AV.int .i64) v0)), (1, AV.lst false false (List.map (AV.int .i64) v1)), (5, AV.slc 0 0 1 v5.length false), (6, AV.int .i64 (IntKind.wrap .i64 (v3 + 1)))] [(0, .grow (List.map (AV.int .i64) v5))] 1 (by simp [h1, h1_]) (by simp [h1, h1_]) (by simp) ?_
      exact Can.next (k' := n1) ((IntKind.wrap .i64 (v3 + 1), v5)) (by omega) hF (by simp [h1, h1_]) (by simp [h1, h1_]) (by simp)
  · replace hF := ite_f h1 hF
    have h1_ := h1
    try simp at h1_
    refine AW.condF (by decide) (by first | (simp [h1, h1_]; done) | (simp [h1, h1_]; omega)) ?_
    refine AW.exit ?_
    try simp
    refine hK112 _ _ _ ?_
    refine AW.seqR mixed [] [none, none] (by kernel_rfl) fun G148 R148 hG148 hR148 => ?_
    try simp [h1, h1_]
    repeat' apply And.intro
    any_goals (first | exact hG148 _ (by kernel_rfl) | refine hR148 _ _ _ ?_ | omega | (unfold maxLen; omega) | (simp [h1, h1_]; done) | (simp [h1, h1_]; omega))
    refine AW.wk [(4, AV.slc 0 0 1 v4.length false)] [(0, .grow (List.map (AV.int .i64) v4))] 1 (by simp [h1, h1_]) (by simp [h1, h1_]) (by simp) ?_
    simp only [Option.some.injEq] at hF
    subst hF
    refine AW.ret (hQ _ _ _ ?_ (matchO_0 ?_)).1
    · simp [Try.f53, h1, h1_]
    · simp [h1, h1_]
end Go.TF
