/- Walks: the Go text computes the Lean functions (printed by a program of our own). -/
import Derived.Test.YtocmgnljgemjkaaPu
import Derived.Test.YtocmgnljgemjkaaAbsT
import Derived.Test.YtocmgnljgemjkaaWa0
import Derived.Test.YtocmgnljgemjkaaWa1
import Derived.Test.YtocmgnljgemjkaaWa2
import Derived.Test.YtocmgnljgemjkaaWa7
import Derived.Test.YtocmgnljgemjkaaWa8
import Derived.Test.YtocmgnljgemjkaaWa9
set_option linter.unusedVariables false
set_option linter.unusedSimpArgs false
set_option maxRecDepth 100000
namespace Go.TF
open Go Go.Abs Go.Proofs Go.Proofs.YtocmgnljgemjkaaT
set_option maxHeartbeats 4000000 in
theorem w_ref23_SameDraft (k : Nat) (v0 : Int) (v1 : Int) (v2 : Int) (v3 : Int) (v4 : (List Int)) (v5 : (List api_Pin)) (v6 : Int) (v7 : Int) (v8 : Int) (v9 : Int) (v10 : (List Int)) (v11 : (List api_Pin)) (v12 : Bool) (hF : ref23_SameDraft k v0 v1 v2 v3 v4 v5 v6 v7 v8 v9 v10 v11 = some v12) :
    FCall Try.prog 41 [AV.agg [AV.int .i64 v0, AV.int .i64 v1, AV.int .i64 v2, AV.int .i64 v3, AV.lst false false (List.map (AV.int .i64) v4), AV.lst false false (List.map api_Pin.av v5)], AV.agg [AV.int .i64 v6, AV.int .i64 v7, AV.int .i64 v8, AV.int .i64 v9, AV.lst false false (List.map (AV.int .i64) v10), AV.lst false false (List.map api_Pin.av v11)]] [] (AV.bool v12) [] := by
  unfold ref23_SameDraft at hF
  refine FCall.enter Try.func41 rfl (by simp) (by decide) (by simp) (by simp) (by simp) (by simp) (by simp) ?_
  intro c0 w0 Q h0 hQ
  refine AW.wk [(0, AV.agg [AV.int .i64 v0, AV.int .i64 v1, AV.int .i64 v2, AV.int .i64 v3, AV.lst false false (List.map (AV.int .i64) v4), AV.lst false false (List.map api_Pin.av v5)]), (1, AV.agg [AV.int .i64 v6, AV.int .i64 v7, AV.int .i64 v8, AV.int .i64 v9, AV.lst false false (List.map (AV.int .i64) v10), AV.lst false false (List.map api_Pin.av v11)])] [] 0 (by simp) (by simp) (by simp) ?_
  refine AW.seqR mixed [] [none, none, none] (by kernel_rfl) fun G3 R3 hG3 hR3 => ?_
  try simp
  repeat' apply And.intro
  any_goals (first | exact hG3 _ (by kernel_rfl) | refine hR3 _ _ _ ?_ | omega | (unfold maxLen; omega) | (simp; done) | (simp; omega))
  refine AW.wk [(2, AV.ptr 0 0), (3, AV.ptr 1 0)] [(0, .cells [AV.int .i64 v0, AV.int .i64 v1, AV.int .i64 v2, AV.int .i64 v3, AV.lst false false (List.map (AV.int .i64) v4), AV.lst false false (List.map api_Pin.av v5)]), (1, .cells [AV.int .i64 v6, AV.int .i64 v7, AV.int .i64 v8, AV.int .i64 v9, AV.lst false false (List.map (AV.int .i64) v10), AV.lst false false (List.map api_Pin.av v11)])] 2 (by simp) (by simp) (by simp) ?_
  refine AW.seqR mixed [] [none, none, none, none, none, none, some (10, true), some (10, true), some (10, true), some (10, true), some (10, true), none, none, some (17, true), some (17, true), some (17, true), some (17, true), some (17, true), none, none, some (24, true), some (24, true), some (24, true), some (24, true), some (24, true), none, none, some (31, true), some (31, true), some (31, true), some (31, true), some (31, true), some (31, true), some (31, true), some (31, true), some (31, true), some (31, true), some (31, true), some (31, true), none, none] (by kernel_rfl) fun G4 R4 hG4 hR4 => ?_
  by_cases h1 : v0 = v6
  · replace hF := ite_t h1 hF
    have h1q : v0 = v6 := h1
    have h1_ := eqb_t h1q
    have h1__ := neb_f h1q
    by_cases h2 : v1 = v7
    · replace hF := ite_t h2 hF
      have h2q : v1 = v7 := h2
      have h2_ := eqb_t h2q
      have h2__ := neb_f h2q
      by_cases h3 : v2 = v8
      · replace hF := ite_t h3 hF
        have h3q : v2 = v8 := h3
        have h3_ := eqb_t h3q
        have h3__ := neb_f h3q
        by_cases h4 : v3 = v9
        · replace hF := ite_t h4 hF
          have h4q : v3 = v9 := h4
          have h4_ := eqb_t h4q
          have h4__ := neb_f h4q
          try simp [h1_, h1__, h2_, h2__, h3_, h3__, h4_, h4__]
          repeat' apply And.intro
          try any_goals (first | omega | (unfold maxLen; omega) | (simp [h1_, h1__, h2_, h2__, h3_, h3__, h4_, h4__]; done))
          obtain ⟨v13, h5, hF⟩ := bnd1_elim hF
          refine aCall_l (w_ref23_Order k _ _ _ _ _ h5) (by simp) [] [] [] rfl (.cons (.same (by simp [h1_, h1__, h2_, h2__, h3_, h3__, h4_, h4__])) (.cons (.same (by simp [h1_, h1__, h2_, h2__, h3_, h3__, h4_, h4__])) .nil)) (by simp [h1_, h1__, h2_, h2__, h3_, h3__, h4_, h4__]) (by decide) (by simp) (by simp) (.inl rfl) (by simp) (by simp) ?_
          try simp [h1_, h1__, h2_, h2__, h3_, h3__, h4_, h4__]
          repeat' apply And.intro
          any_goals (first | exact hG4 _ (by kernel_rfl) | refine hR4 _ _ _ ?_ | omega | (unfold maxLen; omega) | (simp [h1_, h1__, h2_, h2__, h3_, h3__, h4_, h4__]; done) | (simp [h1_, h1__, h2_, h2__, h3_, h3__, h4_, h4__]; omega))
          refine AW.wk [(4, AV.bool (v13 == 0))] [] 2 (by simp [h1_, h1__, h2_, h2__, h3_, h3__, h4_, h4__]) (by simp [h1_, h1__, h2_, h2__, h3_, h3__, h4_, h4__]) (by simp) ?_
          simp only [Option.some.injEq] at hF
          subst hF
          refine AW.ret (hQ _ _ _ ?_ (matchO_0 ?_)).1
          · simp [Try.f41, h1_, h1__, h2_, h2__, h3_, h3__, h4_, h4__]
          · simp [h1_, h1__, h2_, h2__, h3_, h3__, h4_, h4__]
        · replace hF := ite_f h4 hF
          have h4_ := eqb_f h4
          have h4__ := neb_t h4
          try simp [h1_, h1__, h2_, h2__, h3_, h3__, h4, h4_, h4__]
          repeat' apply And.intro
          any_goals (first | exact hG4 _ (by kernel_rfl) | refine hR4 _ _ _ ?_ | omega | (unfold maxLen; omega) | (simp [h1_, h1__, h2_, h2__, h3_, h3__, h4, h4_, h4__]; done) | (simp [h1_, h1__, h2_, h2__, h3_, h3__, h4, h4_, h4__]; omega))
          refine AW.wk [(4, AV.bool false)] [] 2 (by simp [h1_, h1__, h2_, h2__, h3_, h3__, h4, h4_, h4__]) (by simp [h1_, h1__, h2_, h2__, h3_, h3__, h4, h4_, h4__]) (by simp) ?_
          simp only [Option.some.injEq] at hF
          subst hF
          refine AW.ret (hQ _ _ _ ?_ (matchO_0 ?_)).1
          · simp [Try.f41, h1_, h1__, h2_, h2__, h3_, h3__, h4, h4_, h4__]
          · simp [h1_, h1__, h2_, h2__, h3_, h3__, h4, h4_, h4__]
      · replace hF := ite_f h3 hF
        have h3_ := eqb_f h3
        have h3__ := neb_t h3
        try simp [h1_, h1__, h2_, h2__, h3, h3_, h3__]
        repeat' apply And.intro
        any_goals (first | exact hG4 _ (by kernel_rfl) | refine hR4 _ _ _ ?_ | omega | (unfold maxLen; omega) | (simp [h1_, h1__, h2_, h2__, h3, h3_, h3__]; done) | (simp [h1_, h1__, h2_, h2__, h3, h3_, h3__]; omega))
        refine AW.wk [(4, AV.bool false)] [] 2 (by simp [h1_, h1__, h2_, h2__, h3, h3_, h3__]) (by simp [h1_, h1__, h2_, h2__, h3, h3_, h3__]) (by simp) ?_
        simp only [Option.some.injEq] at hF
        subst hF
        refine AW.ret (hQ _ _ _ ?_ (matchO_0 ?_)).1
        · simp [Try.f41, h1_, h1__, h2_, h2__, h3, h3_, h3__]
        · simp [h1_, h1__, h2_, h2__, h3, h3_, h3__]
    · replace hF := ite_f h2 hF
      have h2_ := eqb_f h2
      have h2__ := neb_t h2
      try simp [h1_, h1__, h2, h2_, h2__]
      repeat' apply And.intro
      any_goals (first | exact hG4 _ (by kernel_rfl) | refine hR4 _ _ _ ?_ | omega | (unfold maxLen; omega) | (simp [h1_, h1__, h2, h2_, h2__]; done) | (simp [h1_, h1__, h2, h2_, h2__]; omega))
      refine AW.wk [(4, AV.bool false)] [] 2 (by simp [h1_, h1__, h2, h2_, h2__]) (by simp [h1_, h1__, h2, h2_, h2__]) (by simp) ?_
      simp only [Option.some.injEq] at hF
      subst hF
      refine AW.ret (hQ _ _ _ ?_ (matchO_0 ?_)).1
      · simp [Try.f41, h1_, h1__, h2, h2_, h2__]
      · simp [h1_, h1__, h2, h2_, h2__]
  · replace hF := ite_f h1 hF
    have h1_ := eqb_f h1
    have h1__ := neb_t h1
    try simp [h1, h1_, h1__]
    repeat' apply And.intro
    any_goals (first | exact hG4 _ (by kernel_rfl) | refine hR4 _ _ _ ?_ | omega | (unfold maxLen; omega) | (simp [h1, h1_, h1__]; done) | (simp [h1, h1_, h1__]; omega))
    refine AW.wk [(4, AV.bool false)] [] 2 (by simp [h1, h1_, h1__]) (by simp [h1, h1_, h1__]) (by simp) ?_
    simp only [Option.some.injEq] at hF
    subst hF
    refine AW.ret (hQ _ _ _ ?_ (matchO_0 ?_)).1
    · simp [Try.f41, h1, h1_, h1__]
    · simp [h1, h1_, h1__]
set_option maxHeartbeats 4000000 in
theorem w_ref34_Voices (k : Nat) (v0 : Int) (v1 : Int) (v2 : (List Int)) (v3 : (List Int)) (v4 : Int) (hF : ref34_Voices k v0 v1 v2 v3 = some v4) :
    FCall Try.prog 79 [AV.agg [AV.int .i64 v0, AV.int .i64 v1, AV.lst false false (List.map (AV.int .i64) v2)], AV.lst false false (List.map (AV.int .i64) v3)] [] (AV.int .i64 v4) [] := by
  unfold ref34_Voices at hF
  refine FCall.enter Try.func79 rfl (by simp) (by decide) (by simp) (by simp) (by simp) (by simp) (by simp) ?_
  intro c0 w0 Q h0 hQ
  refine AW.wk [(0, AV.agg [AV.int .i64 v0, AV.int .i64 v1, AV.lst false false (List.map (AV.int .i64) v2)]), (1, AV.lst false false (List.map (AV.int .i64) v3))] [] 0 (by simp) (by simp) (by simp) ?_
  refine AW.seqR mixed [] [none, none] (by kernel_rfl) fun G63 R63 hG63 hR63 => ?_
  try simp
  repeat' apply And.intro
  any_goals (first | exact hG63 _ (by kernel_rfl) | refine hR63 _ _ _ ?_ | omega | (unfold maxLen; omega) | (simp; done) | (simp; omega))
  refine AW.wk [(1, AV.lst false false (List.map (AV.int .i64) v3)), (2, AV.ptr 0 0)] [(0, .cells [AV.int .i64 v0, AV.int .i64 v1, AV.lst false false (List.map (AV.int .i64) v2)])] 1 (by simp) (by simp) (by simp) ?_
  refine AW.seqR mixed [] [none] (by kernel_rfl) fun G64 R64 hG64 hR64 => ?_
  try simp
  repeat' apply And.intro
  any_goals (first | exact hG64 _ (by kernel_rfl) | refine hR64 _ _ _ ?_ | omega | (unfold maxLen; omega) | (simp; done) | (simp; omega))
  refine AW.wk [(1, AV.lst false false (List.map (AV.int .i64) v3)), (2, AV.ptr 0 0), (5, AV.int .i64 0)] [(0, .cells [AV.int .i64 v0, AV.int .i64 v1, AV.lst false false (List.map (AV.int .i64) v2)])] 1 (by simp) (by simp) (by simp) ?_
  refine AW.seq fun K94 hK94 => ?_
  refine AW.seqR mixed [] [none] (by kernel_rfl) fun G95 R95 hG95 hR95 => ?_
  try simp
  repeat' apply And.intro
  any_goals (first | exact hG95 _ (by kernel_rfl) | refine hR95 _ _ _ ?_ | omega | (unfold maxLen; omega) | (simp; done) | (simp; omega))
  refine AW.wk [(1, AV.lst false false (List.map (AV.int .i64) v3)), (2, AV.ptr 0 0), (5, AV.int .i64 0), (6, AV.int .i64 0)] [(0, .cells [AV.int .i64 v0, AV.int .i64 v1, AV.lst false false (List.map (AV.int .i64) v2)])] 1 (by simp) (by simp) (by simp) ?_
  refine AW.block ?_
  refine AW.loopF (α := (Int × Int)) (fun n (v5, v6) => ref34_Voices.L1 k v2 v3 n v5 v6 = some v4) (fun (v5, v6) => [(1, AV.lst false false (List.map (AV.int .i64) v3)), (2, AV.ptr 0 0), (5, AV.int .i64 v5), (6, AV.int .i64 v6)]) (fun (v5, v6) => [(0, .cells [AV.int .i64 v0, AV.int .i64 v1, AV.lst false false (List.map (AV.int .i64) v2)])]) 1 k ((0, 0)) hF (by simp) (by simp) (by simp) ?_
  rintro (_|n1) ⟨v5, v6⟩ hF K114 hK114
  · try dsimp only at hF
    rw [ref34_Voices.L1] at hF; cases hF
  try dsimp only at hF
  rw [ref34_Voices.L1] at hF
  refine AW.seq fun K116 hK116 => ?_
  refine AW.seqR mixed [] [none, none, none, none, none] (by kernel_rfl) fun G117 R117 hG117 hR117 => ?_
  try simp
  repeat' apply And.intro
  any_goals (first | exact hG117 _ (by kernel_rfl) | refine hR117 _ _ _ ?_ | omega | (unfold maxLen; omega) | (simp; done) | (simp; omega))
  refine AW.wk [(1, AV.lst false false (List.map (AV.int .i64) v3)), (2, AV.ptr 0 0), (5, AV.int .i64 v5), (6, AV.int .i64 v6), (11, AV.bool (decide (v6 < (v2.length : Int))))] [(0, .cells [AV.int .i64 v0, AV.int .i64 v1, AV.lst false false (List.map (AV.int .i64) v2)])] 1 (by simp) (by simp) (by simp) ?_
  by_cases h1 : v6 < (v2.length : Int)
  · replace hF := ite_t h1 hF
    have h1_ := h1
    try simp at h1_
    refine AW.condT (by decide) (by first | (simp [h1, h1_]; done) | (simp [h1, h1_]; omega)) ?_
    refine AW.skip ?_
    refine hK116 _ _ _ ?_
    refine AW.midF (α := Int) (fun v7 => ref34_Voices.J2 k v6 (fun v5_ v6_ => ref34_Voices.L1 k v2 v3 n1 v5_ v6_) v7 = some v4) (fun v7 => [(1, AV.lst false false (List.map (AV.int .i64) v3)), (2, AV.ptr 0 0), (5, AV.int .i64 v7), (6, AV.int .i64 v6)]) (fun v7 => [(0, .cells [AV.int .i64 v0, AV.int .i64 v1, AV.lst false false (List.map (AV.int .i64) v2)])]) 1 (fun K121 hK121 => ?_) ?_
    · refine AW.block ?_
      refine AW.seqR mixed [] [none, none, none, none, none, none, none] (by kernel_rfl) fun G122 R122 hG122 hR122 => ?_
      obtain ⟨v8, h2, h3, h4, hF⟩ := idx_elim hF
      have h4_ := get_of h4
      try simp at h4_
      have h3_ := h3
      try simp at h3_
      try simp [h1, h1_, h2, h3, h4, h4_, h3_]
      repeat' apply And.intro
      try any_goals (first | omega | (unfold maxLen; omega) | (simp [h1, h1_, h2, h3, h4, h4_, h3_]; done))
      obtain ⟨v9, h5, hF⟩ := bnd1_elim hF
      refine aCall_l (w_ref24_Has k _ _ _ h5) (by simp) [] [] [] rfl (.cons (.same (by simp [h1, h1_, h2, h3, h4, h4_, h3_])) (.cons (.same (by simp [h1, h1_, h2, h3, h4, h4_, h3_])) .nil)) (by simp [h1, h1_, h2, h3, h4, h4_, h3_]) (by decide) (by simp) (by simp) (.inl rfl) (by simp) (by simp) ?_
      try simp [h1, h1_, h2, h3, h4, h4_, h3_]
      repeat' apply And.intro
      any_goals (first | exact hG122 _ (by kernel_rfl) | refine hR122 _ _ _ ?_ | omega | (unfold maxLen; omega) | (simp [h1, h1_, h2, h3, h4, h4_, h3_]; done) | (simp [h1, h1_, h2, h3, h4, h4_, h3_]; omega))
      refine AW.wk [(1, AV.lst false false (List.map (AV.int .i64) v3)), (2, AV.ptr 0 0), (5, AV.int .i64 v5), (6, AV.int .i64 v6), (20, AV.bool v9)] [(0, .cells [AV.int .i64 v0, AV.int .i64 v1, AV.lst false false (List.map (AV.int .i64) v2)])] 1 (by simp [h1, h1_, h2, h3, h4, h4_, h3_]) (by simp [h1, h1_, h2, h3, h4, h4_, h3_]) (by simp) ?_
      by_cases h6 : v9 = true
      · replace hF := ite_t h6 hF
        have h6_ := h6
        try simp at h6_
        refine AW.condT (by decide) (by first | (simp [h1, h1_, h2, h3, h4, h4_, h3_, h6, h6_]; done) | (simp [h1, h1_, h2, h3, h4, h4_, h3_, h6, h6_]; omega)) ?_
        refine AW.region mixed [] [none, none, none] (by kernel_rfl) fun G123 R123 hG123 hR123 => ?_
        try simp [h1, h1_, h2, h3, h4, h4_, h3_, h6, h6_]
        repeat' apply And.intro
        any_goals (first | exact hG123 _ (by kernel_rfl) | refine hR123 _ _ _ ?_ | omega | (unfold maxLen; omega) | (simp [h1, h1_, h2, h3, h4, h4_, h3_, h6, h6_]; done) | (simp [h1, h1_, h2, h3, h4, h4_, h3_, h6, h6_]; omega))
        refine hK121 _ _ _ ?_
        refine Can.weak [(1, AV.lst false false (List.map (AV.int .i64) v3)), (2, AV.ptr 0 0), (5, AV.int .i64 (IntKind.wrap .i64 (v5 + 1))), (6, AV.int .i64 v6)] [(0, .cells [AV.int .i64 v0, AV.int .i64 v1, AV.lst false false (List.map (AV.int .i64) v2)])] 1 (by simp [h1, h1_, h2, h3, h4, h4_, h3_, h6, h6_]) (by simp [h1, h1_, h2, h3, h4, h4_, h3_, h6, h6_]) (by simp) ?_
        exact Can.join (IntKind.wrap .i64 (v5 + 1)) hF (by simp [h1, h1_, h2, h3, h4, h4_, h3_, h6, h6_]) (by simp [h1, h1_, h2, h3, h4, h4_, h3_, h6, h6_]) (by simp)
      · replace hF := ite_f h6 hF
        have h6_ := h6
        try simp at h6_
        refine AW.condF (by decide) (by first | (simp [h1, h1_, h2, h3, h4, h4_, h3_, h6, h6_]; done) | (simp [h1, h1_, h2, h3, h4, h4_, h3_, h6, h6_]; omega)) ?_
        refine AW.skip ?_
        refine hK121 _ _ _ ?_
        exact Can.join (v5) hF (by simp [h1, h1_, h2, h3, h4, h4_, h3_, h6, h6_]) (by simp [h1, h1_, h2, h3, h4, h4_, h3_, h6, h6_]) (by simp)
    · rintro v7 hF
      try dsimp only at hF
      unfold ref34_Voices.J2 at hF
      refine AW.region mixed [] [none, none, none] (by kernel_rfl) fun G120 R120 hG120 hR120 => ?_
      try simp [h1, h1_]
      repeat' apply And.intro
      any_goals (first | exact hG120 _ (by kernel_rfl) | refine hR120 _ _ _ ?_ | omega | (unfold maxLen; omega) | (simp [h1, h1_]; done) | (simp [h1, h1_]; omega))
      refine hK114 _ _ _ ?_
      refine Can.weak [(1, AV.lst false false (List.map (AV.int .i64) v3)), (2, AV.ptr 0 0), (5, AV.int .i64 v7), (6, AV.int .i64 (IntKind.wrap .i64 (v6 + 1)))] [(0, .cells [AV.int .i64 v0, AV.int .i64 v1, AV.lst false false (List.map (AV.int .i64) v2)])] 1 (by simp [h1, h1_]) (by simp [h1, h1_]) (by simp) ?_
      exact Can.next (k' := n1) ((v7, IntKind.wrap .i64 (v6 + 1))) (by omega) hF (by simp [h1, h1_]) (by simp [h1, h1_]) (by simp)
  · replace hF := ite_f h1 hF
    have h1_ := h1
    try simp at h1_
    refine AW.condF (by decide) (by first | (simp [h1, h1_]; done) | (simp [h1, h1_]; omega)) ?_
    refine AW.exit ?_
    try simp
    refine hK94 _ _ _ ?_
    refine AW.seqR mixed [] [none, none] (by kernel_rfl) fun G124 R124 hG124 hR124 => ?_
    try simp [h1, h1_]
    repeat' apply And.intro
    any_goals (first | exact hG124 _ (by kernel_rfl) | refine hR124 _ _ _ ?_ | omega | (unfold maxLen; omega) | (simp [h1, h1_]; done) | (simp [h1, h1_]; omega))
    refine AW.wk [(4, AV.int .i64 v5)] [] 1 (by simp [h1, h1_]) (by simp [h1, h1_]) (by simp) ?_
    simp only [Option.some.injEq] at hF
    subst hF
    refine AW.ret (hQ _ _ _ ?_ (matchO_0 ?_)).1
    · simp [Try.f79, h1, h1_]
    · simp [h1, h1_]
set_option maxHeartbeats 4000000 in
theorem w_ref34_Enough (k : Nat) (v0 : Int) (v1 : Int) (v2 : (List Int)) (v3 : (List Int)) (v4 : Bool) (hF : ref34_Enough k v0 v1 v2 v3 = some v4) :
    FCall Try.prog 43 [AV.agg [AV.int .i64 v0, AV.int .i64 v1, AV.lst false false (List.map (AV.int .i64) v2)], AV.lst false false (List.map (AV.int .i64) v3)] [] (AV.bool v4) [] := by
  unfold ref34_Enough at hF
  refine FCall.enter Try.func43 rfl (by simp) (by decide) (by simp) (by simp) (by simp) (by simp) (by simp) ?_
  intro c0 w0 Q h0 hQ
  refine AW.wk [(0, AV.agg [AV.int .i64 v0, AV.int .i64 v1, AV.lst false false (List.map (AV.int .i64) v2)]), (1, AV.lst false false (List.map (AV.int .i64) v3))] [] 0 (by simp) (by simp) (by simp) ?_
  refine AW.seqR mixed [] [none, none] (by kernel_rfl) fun G3 R3 hG3 hR3 => ?_
  try simp
  repeat' apply And.intro
  any_goals (first | exact hG3 _ (by kernel_rfl) | refine hR3 _ _ _ ?_ | omega | (unfold maxLen; omega) | (simp; done) | (simp; omega))
  refine AW.wk [(1, AV.lst false false (List.map (AV.int .i64) v3)), (2, AV.ptr 0 0)] [(0, .cells [AV.int .i64 v0, AV.int .i64 v1, AV.lst false false (List.map (AV.int .i64) v2)])] 1 (by simp) (by simp) (by simp) ?_
  refine AW.seqR mixed [] [none, none, none, some (7, true), some (7, true), some (7, true), some (7, true), some (7, true), some (7, true), none, none] (by kernel_rfl) fun G4 R4 hG4 hR4 => ?_
  try simp
  repeat' apply And.intro
  try any_goals (first | omega | (unfold maxLen; omega) | (simp; done))
  obtain ⟨v5, h1, hF⟩ := bnd1_elim hF
  refine aCall_l (w_ref34_Valid k _ _ _ _ h1) (by simp) [] [] [] rfl (.cons (.same (by simp)) .nil) (by simp) (by decide) (by simp) (by simp) (.inl rfl) (by simp) (by simp) ?_
  by_cases h2 : v5 = true
  · replace hF := ite_t h2 hF
    have h2_ := h2
    try simp at h2_
    try simp [h2, h2_]
    repeat' apply And.intro
    try any_goals (first | omega | (unfold maxLen; omega) | (simp [h2, h2_]; done))
    obtain ⟨v6, h3, hF⟩ := bnd1_elim hF
    refine aCall_l (w_ref34_Voices k _ _ _ _ _ h3) (by simp) [] [] [] rfl (.cons (.same (by simp [h2, h2_])) (.cons (.same (by simp [h2, h2_])) .nil)) (by simp [h2, h2_]) (by decide) (by simp) (by simp) (.inl rfl) (by simp) (by simp) ?_
    try simp [h2, h2_]
    repeat' apply And.intro
    any_goals (first | exact hG4 _ (by kernel_rfl) | refine hR4 _ _ _ ?_ | omega | (unfold maxLen; omega) | (simp [h2, h2_]; done) | (simp [h2, h2_]; omega))
    refine AW.wk [(4, AV.bool (decide (v1 ≤ v6)))] [] 1 (by simp [h2, h2_]) (by simp [h2, h2_]) (by simp) ?_
    simp only [Option.some.injEq] at hF
    subst hF
    refine AW.ret (hQ _ _ _ ?_ (matchO_0 ?_)).1
    · simp [Try.f43, h2, h2_]
    · simp [h2, h2_]
  · replace hF := ite_f h2 hF
    have h2_ := h2
    try simp at h2_
    try simp [h2, h2_]
    repeat' apply And.intro
    any_goals (first | exact hG4 _ (by kernel_rfl) | refine hR4 _ _ _ ?_ | omega | (unfold maxLen; omega) | (simp [h2, h2_]; done) | (simp [h2, h2_]; omega))
    refine AW.wk [(4, AV.bool false)] [] 1 (by simp [h2, h2_]) (by simp [h2, h2_]) (by simp) ?_
    simp only [Option.some.injEq] at hF
    subst hF
    refine AW.ret (hQ _ _ _ ?_ (matchO_0 ?_)).1
    · simp [Try.f43, h2, h2_]
    · simp [h2, h2_]
set_option maxHeartbeats 4000000 in
theorem w_law34_GuardianRaw (k : Nat) (v0 : (List Int)) (v1 : Int) (v2 : Int) (v3 : (List Int)) (v4 : (List Int)) (v5 : Bool) (hF : law34_GuardianRaw k v0 v1 v2 v3 v4 = some v5) :
    FCall Try.prog 6 [AV.lst false false (List.map (AV.int .i64) v0), AV.agg [AV.int .i64 v1, AV.int .i64 v2, AV.lst false false (List.map (AV.int .i64) v3)], AV.lst false false (List.map (AV.int .i64) v4)] [] (AV.bool v5) [] := by
  unfold law34_GuardianRaw at hF
  refine FCall.enter Try.func6 rfl (by simp) (by decide) (by simp) (by simp) (by simp) (by simp) (by simp) ?_
  intro c0 w0 Q h0 hQ
  refine AW.wk [(0, AV.lst false false (List.map (AV.int .i64) v0)), (1, AV.agg [AV.int .i64 v1, AV.int .i64 v2, AV.lst false false (List.map (AV.int .i64) v3)]), (2, AV.lst false false (List.map (AV.int .i64) v4))] [] 0 (by simp) (by simp) (by simp) ?_
  refine AW.seqR mixed [] [none, none] (by kernel_rfl) fun G218 R218 hG218 hR218 => ?_
  try simp
  repeat' apply And.intro
  any_goals (first | exact hG218 _ (by kernel_rfl) | refine hR218 _ _ _ ?_ | omega | (unfold maxLen; omega) | (simp; done) | (simp; omega))
  refine AW.wk [(0, AV.lst false false (List.map (AV.int .i64) v0)), (2, AV.lst false false (List.map (AV.int .i64) v4)), (4, AV.ptr 0 0)] [(0, .cells [AV.int .i64 v1, AV.int .i64 v2, AV.lst false false (List.map (AV.int .i64) v3)])] 1 (by simp) (by simp) (by simp) ?_
  refine AW.seq fun K223 hK223 => ?_
  refine AW.seqR mixed [] [none, none, none, none, some (18, false), some (18, false), some (18, false), some (18, false), none, none, some (24, false), some (24, false), some (24, false), none] (by kernel_rfl) fun G224 R224 hG224 hR224 => ?_
  try simp
  repeat' apply And.intro
  try any_goals (first | omega | (unfold maxLen; omega) | (simp; done))
  obtain ⟨v6, h1, hF⟩ := bnd1_elim hF
  refine aCall_l (w_mill_Light k _ _ h1) (by simp) [] [] [] rfl (.cons (.same (by simp)) .nil) (by simp) (by decide) (by simp) (by simp) (.inl rfl) (by simp) (by simp) ?_
  by_cases h2 : (!v6) = true
  · replace hF := ite_t h2 hF
    have h2_ := h2
    try simp at h2_
    try simp [h2, h2_]
    repeat' apply And.intro
    any_goals (first | exact hG224 _ (by kernel_rfl) | refine hR224 _ _ _ ?_ | omega | (unfold maxLen; omega) | (simp [h2, h2_]; done) | (simp [h2, h2_]; omega))
    refine AW.wk [(0, AV.lst false false (List.map (AV.int .i64) v0)), (2, AV.lst false false (List.map (AV.int .i64) v4)), (4, AV.ptr 0 0), (28, AV.bool true)] [(0, .cells [AV.int .i64 v1, AV.int .i64 v2, AV.lst false false (List.map (AV.int .i64) v3)])] 1 (by simp [h2, h2_]) (by simp [h2, h2_]) (by simp) ?_
    refine AW.condT (by decide) (by simp [h2, h2_]) ?_
    refine AW.seqR mixed [] [none, none] (by kernel_rfl) fun G225 R225 hG225 hR225 => ?_
    try simp [h2, h2_]
    repeat' apply And.intro
    try any_goals (first | omega | (unfold maxLen; omega) | (simp [h2, h2_]; done))
    obtain ⟨v7, h3, hF⟩ := bnd1_elim hF
    refine aCall_l (w_law34_awake k _ h3) (by simp) [] [] [] rfl .nil (by simp [h2, h2_]) (by decide) (by simp) (by simp) (.inl rfl) (by simp) (by simp) ?_
    try simp [h2, h2_]
    repeat' apply And.intro
    any_goals (first | exact hG225 _ (by kernel_rfl) | refine hR225 _ _ _ ?_ | omega | (unfold maxLen; omega) | (simp [h2, h2_]; done) | (simp [h2, h2_]; omega))
    refine AW.wk [(6, AV.bool v7)] [] 1 (by simp [h2, h2_]) (by simp [h2, h2_]) (by simp) ?_
    simp only [Option.some.injEq] at hF
    subst hF
    refine AW.ret (hQ _ _ _ ?_ (matchO_0 ?_)).1
    · simp [Try.f6, h2, h2_]
    · simp [h2, h2_]
  · replace hF := ite_f h2 hF
    have h2_ := h2
    try simp at h2_
    by_cases h4 : 100 < (v3.length : Int)
    · replace hF := ite_t h4 hF
      have h4_ := h4
      try simp at h4_
      try simp [h2, h2_, h4, h4_]
      repeat' apply And.intro
      any_goals (first | exact hG224 _ (by kernel_rfl) | refine hR224 _ _ _ ?_ | omega | (unfold maxLen; omega) | (simp [h2, h2_, h4, h4_]; done) | (simp [h2, h2_, h4, h4_]; omega))
      refine AW.wk [(0, AV.lst false false (List.map (AV.int .i64) v0)), (2, AV.lst false false (List.map (AV.int .i64) v4)), (4, AV.ptr 0 0), (28, AV.bool true)] [(0, .cells [AV.int .i64 v1, AV.int .i64 v2, AV.lst false false (List.map (AV.int .i64) v3)])] 1 (by simp [h2, h2_, h4, h4_]) (by simp [h2, h2_, h4, h4_]) (by simp) ?_
      refine AW.condT (by decide) (by simp [h2, h2_, h4, h4_]) ?_
      refine AW.seqR mixed [] [none, none] (by kernel_rfl) fun G226 R226 hG226 hR226 => ?_
      try simp [h2, h2_, h4, h4_]
      repeat' apply And.intro
      try any_goals (first | omega | (unfold maxLen; omega) | (simp [h2, h2_, h4, h4_]; done))
      obtain ⟨v8, h5, hF⟩ := bnd1_elim hF
      refine aCall_l (w_law34_awake k _ h5) (by simp) [] [] [] rfl .nil (by simp [h2, h2_, h4, h4_]) (by decide) (by simp) (by simp) (.inl rfl) (by simp) (by simp) ?_
      try simp [h2, h2_, h4, h4_]
      repeat' apply And.intro
      any_goals (first | exact hG226 _ (by kernel_rfl) | refine hR226 _ _ _ ?_ | omega | (unfold maxLen; omega) | (simp [h2, h2_, h4, h4_]; done) | (simp [h2, h2_, h4, h4_]; omega))
      refine AW.wk [(6, AV.bool v8)] [] 1 (by simp [h2, h2_, h4, h4_]) (by simp [h2, h2_, h4, h4_]) (by simp) ?_
      simp only [Option.some.injEq] at hF
      subst hF
      refine AW.ret (hQ _ _ _ ?_ (matchO_0 ?_)).1
      · simp [Try.f6, h2, h2_, h4, h4_]
      · simp [h2, h2_, h4, h4_]
    · replace hF := ite_f h4 hF
      have h4_ := h4
      try simp at h4_
      try simp [h2, h2_, h4, h4_]
      repeat' apply And.intro
      any_goals (first | exact hG224 _ (by kernel_rfl) | refine hR224 _ _ _ ?_ | omega | (unfold maxLen; omega) | (simp [h2, h2_, h4, h4_]; done) | (simp [h2, h2_, h4, h4_]; omega))
      refine AW.wk [(0, AV.lst false false (List.map (AV.int .i64) v0)), (2, AV.lst false false (List.map (AV.int .i64) v4)), (4, AV.ptr 0 0), (28, AV.bool (decide (100 < (v4.length : Int))))] [(0, .cells [AV.int .i64 v1, AV.int .i64 v2, AV.lst false false (List.map (AV.int .i64) v3)])] 1 (by simp [h2, h2_, h4, h4_]) (by simp [h2, h2_, h4, h4_]) (by simp) ?_
      by_cases h6 : 100 < (v4.length : Int)
      · replace hF := ite_t h6 hF
        have h6_ := h6
        try simp at h6_
        refine AW.condT (by decide) (by first | (simp [h2, h2_, h4, h4_, h6, h6_]; done) | (simp [h2, h2_, h4, h4_, h6, h6_]; omega)) ?_
        refine AW.seqR mixed [] [none, none] (by kernel_rfl) fun G227 R227 hG227 hR227 => ?_
        try simp [h2, h2_, h4, h4_, h6, h6_]
        repeat' apply And.intro
        try any_goals (first | omega | (unfold maxLen; omega) | (simp [h2, h2_, h4, h4_, h6, h6_]; done))
        obtain ⟨v9, h7, hF⟩ := bnd1_elim hF
        refine aCall_l (w_law34_awake k _ h7) (by simp) [] [] [] rfl .nil (by simp [h2, h2_, h4, h4_, h6, h6_]) (by decide) (by simp) (by simp) (.inl rfl) (by simp) (by simp) ?_
        try simp [h2, h2_, h4, h4_, h6, h6_]
        repeat' apply And.intro
        any_goals (first | exact hG227 _ (by kernel_rfl) | refine hR227 _ _ _ ?_ | omega | (unfold maxLen; omega) | (simp [h2, h2_, h4, h4_, h6, h6_]; done) | (simp [h2, h2_, h4, h4_, h6, h6_]; omega))
        refine AW.wk [(6, AV.bool v9)] [] 1 (by simp [h2, h2_, h4, h4_, h6, h6_]) (by simp [h2, h2_, h4, h4_, h6, h6_]) (by simp) ?_
        simp only [Option.some.injEq] at hF
        subst hF
        refine AW.ret (hQ _ _ _ ?_ (matchO_0 ?_)).1
        · simp [Try.f6, h2, h2_, h4, h4_, h6, h6_]
        · simp [h2, h2_, h4, h4_, h6, h6_]
      · replace hF := ite_f h6 hF
        have h6_ := h6
        try simp at h6_
        refine AW.condF (by decide) (by first | (simp [h2, h2_, h4, h4_, h6, h6_]; done) | (simp [h2, h2_, h4, h4_, h6, h6_]; omega)) ?_
        refine AW.skip ?_
        refine hK223 _ _ _ ?_
        refine AW.seqR mixed [] [none, none, none] (by kernel_rfl) fun G228 R228 hG228 hR228 => ?_
        try simp [h2, h2_, h4, h4_, h6, h6_]
        repeat' apply And.intro
        try any_goals (first | omega | (unfold maxLen; omega) | (simp [h2, h2_, h4, h4_, h6, h6_]; done))
        obtain ⟨v10, v11, h8, hF⟩ := bnd2_elim hF
        refine aCall_l (w_mill_Roll k _ _ _ h8) (by simp) [] [] [] rfl (.cons (.same (by simp [h2, h2_, h4, h4_, h6, h6_])) .nil) (by simp [h2, h2_, h4, h4_, h6, h6_]) (by decide) (by simp) (by simp) (.inl rfl) (by simp) (by simp) ?_
        try simp [h2, h2_, h4, h4_, h6, h6_]
        repeat' apply And.intro
        any_goals (first | exact hG228 _ (by kernel_rfl) | refine hR228 _ _ _ ?_ | omega | (unfold maxLen; omega) | (simp [h2, h2_, h4, h4_, h6, h6_]; done) | (simp [h2, h2_, h4, h4_, h6, h6_]; omega))
        refine AW.wk [(2, AV.lst false false (List.map (AV.int .i64) v4)), (4, AV.ptr 0 0), (7, AV.ptr 1 0)] [(0, .cells [AV.int .i64 v1, AV.int .i64 v2, AV.lst false false (List.map (AV.int .i64) v3)]), (1, .cells [AV.lst false false (List.map (AV.int .i64) v10), AV.int .i64 v11])] 2 (by simp [h2, h2_, h4, h4_, h6, h6_]) (by simp [h2, h2_, h4, h4_, h6, h6_]) (by simp) ?_
        refine AW.seqR mixed [] [none, none, none, none] (by kernel_rfl) fun G229 R229 hG229 hR229 => ?_
        try simp [h2, h2_, h4, h4_, h6, h6_]
        repeat' apply And.intro
        try any_goals (first | omega | (unfold maxLen; omega) | (simp [h2, h2_, h4, h4_, h6, h6_]; done))
        obtain ⟨v12, v13, v14, v15, h9, hF⟩ := bnd4_elim hF
        refine aCall_l (w_law34_guard k _ _ _ _ _ _ h9) (by simp) [1] [] [1] rfl (.cons (.same (by simp [h2, h2_, h4, h4_, h6, h6_])) .nil) (by simp [h2, h2_, h4, h4_, h6, h6_]) (by decide) (by simp) (by simp) (.inl rfl) (by simp) (by simp) ?_
        try simp [h2, h2_, h4, h4_, h6, h6_]
        repeat' apply And.intro
        any_goals (first | exact hG229 _ (by kernel_rfl) | refine hR229 _ _ _ ?_ | omega | (unfold maxLen; omega) | (simp [h2, h2_, h4, h4_, h6, h6_]; done) | (simp [h2, h2_, h4, h4_, h6, h6_]; omega))
        refine AW.wk [(2, AV.lst false false (List.map (AV.int .i64) v4)), (4, AV.ptr 0 0), (7, AV.ptr 1 0), (8, AV.ptr 2 0)] [(0, .cells [AV.int .i64 v1, AV.int .i64 v2, AV.lst false false (List.map (AV.int .i64) v3)]), (1, .cells [AV.lst false false (List.map (AV.int .i64) v10), AV.int .i64 v15]), (2, .cells [AV.int .i64 v12, AV.int .i64 v13, AV.lst false false (List.map (AV.int .i64) v14)])] 3 (by simp [h2, h2_, h4, h4_, h6, h6_]) (by simp [h2, h2_, h4, h4_, h6, h6_]) (by simp) ?_
        refine AW.seqR mixed [] [none, none, none, none, none] (by kernel_rfl) fun G230 R230 hG230 hR230 => ?_
        try simp [h2, h2_, h4, h4_, h6, h6_]
        repeat' apply And.intro
        try any_goals (first | omega | (unfold maxLen; omega) | (simp [h2, h2_, h4, h4_, h6, h6_]; done))
        obtain ⟨v16, v17, h10, hF⟩ := bnd2_elim hF
        refine aCall_l (w_made_Dice_Some k _ _ _ _ _ h10) (by simp) [1] [] [1] rfl (.cons (.same (by simp [h2, h2_, h4, h4_, h6, h6_])) (.cons (.same (by simp [h2, h2_, h4, h4_, h6, h6_])) .nil)) (by simp [h2, h2_, h4, h4_, h6, h6_]) (by decide) (by simp) (by simp) (.inl rfl) (by simp) (by simp) ?_
        obtain ⟨h11, hF⟩ := chk_elim hF
        have h11_ := h11
        try simp at h11_
        try simp [h2, h2_, h4, h4_, h6, h6_, h11]
        repeat' apply And.intro
        any_goals (first | exact hG230 _ (by kernel_rfl) | refine hR230 _ _ _ ?_ | omega | (unfold maxLen; omega) | (simp [h2, h2_, h4, h4_, h6, h6_, h11]; done) | (simp [h2, h2_, h4, h4_, h6, h6_, h11]; omega))
        refine AW.wk [(4, AV.ptr 0 0), (8, AV.ptr 2 0), (9, AV.slc 4 0 1 ((v16 ++ v4).length) false)] [(0, .cells [AV.int .i64 v1, AV.int .i64 v2, AV.lst false false (List.map (AV.int .i64) v3)]), (2, .cells [AV.int .i64 v12, AV.int .i64 v13, AV.lst false false (List.map (AV.int .i64) v14)]), (4, .grow (List.map (AV.int .i64) (v16 ++ v4)))] 5 (by simp [h2, h2_, h4, h4_, h6, h6_, h11]) (by simp [h2, h2_, h4, h4_, h6, h6_, h11]) (by simp) ?_
        refine AW.frz 4 (o := .grow (List.map (AV.int .i64) (v16 ++ v4))) (by simp [h2, h2_, h4, h4_, h6, h6_, h11]) rfl [(9, AV.lst false false (List.map (AV.int .i64) (v16 ++ v4)))] [] ⟨(.l (by simp) (by simp) (by simp) (by simp)), trivial⟩ trivial ?_
        refine AW.wk [(4, AV.ptr 0 0), (8, AV.ptr 2 0), (9, AV.lst false false (List.map (AV.int .i64) (v16 ++ v4)))] [(0, .cells [AV.int .i64 v1, AV.int .i64 v2, AV.lst false false (List.map (AV.int .i64) v3)]), (2, .cells [AV.int .i64 v12, AV.int .i64 v13, AV.lst false false (List.map (AV.int .i64) v14)])] 5 (by simp [h2, h2_, h4, h4_, h6, h6_, h11]) (by simp [h2, h2_, h4, h4_, h6, h6_, h11]) (by simp) ?_
        refine AW.seq fun K332 hK332 => ?_
        refine AW.seqR mixed [] [none] (by kernel_rfl) fun G333 R333 hG333 hR333 => ?_
        try simp [h2, h2_, h4, h4_, h6, h6_, h11]
        repeat' apply And.intro
        any_goals (first | exact hG333 _ (by kernel_rfl) | refine hR333 _ _ _ ?_ | omega | (unfold maxLen; omega) | (simp [h2, h2_, h4, h4_, h6, h6_, h11]; done) | (simp [h2, h2_, h4, h4_, h6, h6_, h11]; omega))
        refine AW.wk [(4, AV.ptr 0 0), (8, AV.ptr 2 0), (9, AV.lst false false (List.map (AV.int .i64) (v16 ++ v4))), (10, AV.int .i64 0)] [(0, .cells [AV.int .i64 v1, AV.int .i64 v2, AV.lst false false (List.map (AV.int .i64) v3)]), (2, .cells [AV.int .i64 v12, AV.int .i64 v13, AV.lst false false (List.map (AV.int .i64) v14)])] 5 (by simp [h2, h2_, h4, h4_, h6, h6_, h11]) (by simp [h2, h2_, h4, h4_, h6, h6_, h11]) (by simp) ?_
        refine AW.block ?_
        refine AW.rnm (m := 0) h0 [(0, 0), (1, 2)] [(4, AV.ptr 0 0), (8, AV.ptr 1 0), (9, AV.lst false false (List.map (AV.int .i64) (v16 ++ v4))), (10, AV.int .i64 0)] [(0, .cells [AV.int .i64 v1, AV.int .i64 v2, AV.lst false false (List.map (AV.int .i64) v3)]), (1, .cells [AV.int .i64 v12, AV.int .i64 v13, AV.lst false false (List.map (AV.int .i64) v14)])] 2 (by decide) (by decide) (by decide) rfl (by simp [h2, h2_, h4, h4_, h6, h6_, h11]) (by simp [h2, h2_, h4, h4_, h6, h6_, h11]) ?_
        refine AW.loopF (α := (Int × Int × Int × (List Int))) (fun n (v18, v19, v20, v21) => law34_GuardianRaw.L1 k v1 v2 v3 v4 v16 n v18 v19 v20 v21 = some v5) (fun (v18, v19, v20, v21) => [(4, AV.ptr 0 0), (8, AV.ptr 1 0), (9, AV.lst false false (List.map (AV.int .i64) (v16 ++ v4))), (10, AV.int .i64 v18)]) (fun (v18, v19, v20, v21) => [(0, .cells [AV.int .i64 v1, AV.int .i64 v2, AV.lst false false (List.map (AV.int .i64) v3)]), (1, .cells [AV.int .i64 v19, AV.int .i64 v20, AV.lst false false (List.map (AV.int .i64) v21)])]) 2 k ((0, v12, v13, v14)) hF (by simp [h2, h2_, h4, h4_, h6, h6_, h11]) (by simp [h2, h2_, h4, h4_, h6, h6_, h11]) (by simp) ?_
        rintro (_|n1) ⟨v18, v19, v20, v21⟩ hF K400 hK400
        · try dsimp only at hF
          rw [law34_GuardianRaw.L1] at hF; cases hF
        try dsimp only at hF
        rw [law34_GuardianRaw.L1] at hF
        refine AW.seq fun K402 hK402 => ?_
        refine AW.seqR mixed [] [none, none] (by kernel_rfl) fun G403 R403 hG403 hR403 => ?_
        try simp [h2, h2_, h4, h4_, h6, h6_, h11]
        repeat' apply And.intro
        any_goals (first | exact hG403 _ (by kernel_rfl) | refine hR403 _ _ _ ?_ | omega | (unfold maxLen; omega) | (simp [h2, h2_, h4, h4_, h6, h6_, h11]; done) | (simp [h2, h2_, h4, h4_, h6, h6_, h11]; omega))
        refine AW.wk [(4, AV.ptr 0 0), (8, AV.ptr 1 0), (9, AV.lst false false (List.map (AV.int .i64) (v16 ++ v4))), (10, AV.int .i64 v18), (39, AV.bool (decide (v18 < 2)))] [(0, .cells [AV.int .i64 v1, AV.int .i64 v2, AV.lst false false (List.map (AV.int .i64) v3)]), (1, .cells [AV.int .i64 v19, AV.int .i64 v20, AV.lst false false (List.map (AV.int .i64) v21)])] 2 (by simp [h2, h2_, h4, h4_, h6, h6_, h11]) (by simp [h2, h2_, h4, h4_, h6, h6_, h11]) (by simp) ?_
        by_cases h12 : v18 < 2
        · replace hF := ite_t h12 hF
          have h12_ := h12
          try simp at h12_
          refine AW.condT (by decide) (by first | (simp [h2, h2_, h4, h4_, h6, h6_, h11, h12, h12_]; done) | (simp [h2, h2_, h4, h4_, h6, h6_, h11, h12, h12_]; omega)) ?_
          refine AW.skip ?_
          refine hK402 _ _ _ ?_
          refine AW.seq fun K418 hK418 => ?_
          refine AW.block ?_
          refine AW.seqR mixed [] [none, none, none, none, none, none, none, none] (by kernel_rfl) fun G419 R419 hG419 hR419 => ?_
          try simp [h2, h2_, h4, h4_, h6, h6_, h11, h12, h12_]
          repeat' apply And.intro
          try any_goals (first | omega | (unfold maxLen; omega) | (simp [h2, h2_, h4, h4_, h6, h6_, h11, h12, h12_]; done))
          obtain ⟨v22, v23, v24, v25, v26, v27, v28, h13, hF⟩ := bnd7_elim hF
          refine aCall_l (w_guardian_Draft k _ _ _ _ _ _ _ _ _ _ h13) (by simp) [] [] [] rfl (.cons (.same (by simp [h2, h2_, h4, h4_, h6, h6_, h11, h12, h12_])) .nil) (by simp [h2, h2_, h4, h4_, h6, h6_, h11, h12, h12_]) (by decide) (by simp) (by simp) (.inl rfl) (by simp) (by simp) ?_
          try simp [h2, h2_, h4, h4_, h6, h6_, h11, h12, h12_]
          repeat' apply And.intro
          any_goals (first | exact hG419 _ (by kernel_rfl) | refine hR419 _ _ _ ?_ | omega | (unfold maxLen; omega) | (simp [h2, h2_, h4, h4_, h6, h6_, h11, h12, h12_]; done) | (simp [h2, h2_, h4, h4_, h6, h6_, h11, h12, h12_]; omega))
          refine AW.wk [(4, AV.ptr 0 0), (8, AV.ptr 1 0), (9, AV.lst false false (List.map (AV.int .i64) (v16 ++ v4))), (10, AV.int .i64 v18), (11, AV.ptr 2 0), (12, AV.int .i64 v28)] [(0, .cells [AV.int .i64 v1, AV.int .i64 v2, AV.lst false false (List.map (AV.int .i64) v3)]), (1, .cells [AV.int .i64 v19, AV.int .i64 v20, AV.lst false false (List.map (AV.int .i64) v21)]), (2, .cells [AV.int .i64 v22, AV.int .i64 v23, AV.int .i64 v24, AV.int .i64 v25, AV.lst false false (List.map (AV.int .i64) v26), AV.lst false false (List.map api_Pin.av v27)])] 3 (by simp [h2, h2_, h4, h4_, h6, h6_, h11, h12, h12_]) (by simp [h2, h2_, h4, h4_, h6, h6_, h11, h12, h12_]) (by simp) ?_
          refine AW.seqR mixed [] [none, none, none, none, none, none, none, none] (by kernel_rfl) fun G420 R420 hG420 hR420 => ?_
          try simp [h2, h2_, h4, h4_, h6, h6_, h11, h12, h12_]
          repeat' apply And.intro
          try any_goals (first | omega | (unfold maxLen; omega) | (simp [h2, h2_, h4, h4_, h6, h6_, h11, h12, h12_]; done))
          obtain ⟨v29, v30, v31, v32, v33, v34, v35, h14, hF⟩ := bnd7_elim hF
          refine aCall_l (w_ref34_Draft k _ _ _ _ _ _ _ _ _ _ h14) (by simp) [] [] [] rfl (.cons (.same (by simp [h2, h2_, h4, h4_, h6, h6_, h11, h12, h12_])) .nil) (by simp [h2, h2_, h4, h4_, h6, h6_, h11, h12, h12_]) (by decide) (by simp) (by simp) (.inl rfl) (by simp) (by simp) ?_
          try simp [h2, h2_, h4, h4_, h6, h6_, h11, h12, h12_]
          repeat' apply And.intro
          any_goals (first | exact hG420 _ (by kernel_rfl) | refine hR420 _ _ _ ?_ | omega | (unfold maxLen; omega) | (simp [h2, h2_, h4, h4_, h6, h6_, h11, h12, h12_]; done) | (simp [h2, h2_, h4, h4_, h6, h6_, h11, h12, h12_]; omega))
          refine AW.wk [(4, AV.ptr 0 0), (8, AV.ptr 1 0), (9, AV.lst false false (List.map (AV.int .i64) (v16 ++ v4))), (10, AV.int .i64 v18), (11, AV.ptr 2 0), (12, AV.int .i64 v28), (13, AV.ptr 3 0), (14, AV.int .i64 v35)] [(0, .cells [AV.int .i64 v1, AV.int .i64 v2, AV.lst false false (List.map (AV.int .i64) v3)]), (1, .cells [AV.int .i64 v19, AV.int .i64 v20, AV.lst false false (List.map (AV.int .i64) v21)]), (2, .cells [AV.int .i64 v22, AV.int .i64 v23, AV.int .i64 v24, AV.int .i64 v25, AV.lst false false (List.map (AV.int .i64) v26), AV.lst false false (List.map api_Pin.av v27)]), (3, .cells [AV.int .i64 v29, AV.int .i64 v30, AV.int .i64 v31, AV.int .i64 v32, AV.lst false false (List.map (AV.int .i64) v33), AV.lst false false (List.map api_Pin.av v34)])] 4 (by simp [h2, h2_, h4, h4_, h6, h6_, h11, h12, h12_]) (by simp [h2, h2_, h4, h4_, h6, h6_, h11, h12, h12_]) (by simp) ?_
          refine AW.seq fun K426 hK426 => ?_
          refine AW.seqR mixed [] [none, none, none, none, some (55, false), some (55, false), some (55, false), some (55, false), none, none, some (61, false), some (61, false), some (61, false), some (61, false), some (61, false), none, none, some (68, false), some (68, false), some (68, false), some (68, false), some (68, false), some (68, false), some (68, false), none] (by kernel_rfl) fun G427 R427 hG427 hR427 => ?_
          by_cases h15 : v28 ≠ v35
          · replace hF := ite_t h15 hF
            have h15_ := eqb_f h15
            have h15__ := neb_t h15
            try simp [h2, h2_, h4, h4_, h6, h6_, h11, h12, h12_, h15, h15_, h15__]
            repeat' apply And.intro
            any_goals (first | exact hG427 _ (by kernel_rfl) | refine hR427 _ _ _ ?_ | omega | (unfold maxLen; omega) | (simp [h2, h2_, h4, h4_, h6, h6_, h11, h12, h12_, h15, h15_, h15__]; done) | (simp [h2, h2_, h4, h4_, h6, h6_, h11, h12, h12_, h15, h15_, h15__]; omega))
            refine AW.wk [(4, AV.ptr 0 0), (8, AV.ptr 1 0), (9, AV.lst false false (List.map (AV.int .i64) (v16 ++ v4))), (10, AV.int .i64 v18), (76, AV.bool true)] [(0, .cells [AV.int .i64 v1, AV.int .i64 v2, AV.lst false false (List.map (AV.int .i64) v3)]), (1, .cells [AV.int .i64 v19, AV.int .i64 v20, AV.lst false false (List.map (AV.int .i64) v21)])] 4 (by simp [h2, h2_, h4, h4_, h6, h6_, h11, h12, h12_, h15, h15_, h15__]) (by simp [h2, h2_, h4, h4_, h6, h6_, h11, h12, h12_, h15, h15_, h15__]) (by simp) ?_
            refine AW.condT (by decide) (by simp [h2, h2_, h4, h4_, h6, h6_, h11, h12, h12_, h15, h15_, h15__]) ?_
            refine AW.seqR mixed [] [none] (by kernel_rfl) fun G428 R428 hG428 hR428 => ?_
            try simp [h2, h2_, h4, h4_, h6, h6_, h11, h12, h12_, h15, h15_, h15__]
            repeat' apply And.intro
            any_goals (first | exact hG428 _ (by kernel_rfl) | refine hR428 _ _ _ ?_ | omega | (unfold maxLen; omega) | (simp [h2, h2_, h4, h4_, h6, h6_, h11, h12, h12_, h15, h15_, h15__]; done) | (simp [h2, h2_, h4, h4_, h6, h6_, h11, h12, h12_, h15, h15_, h15__]; omega))
            refine AW.wk [(6, AV.bool false)] [] 4 (by simp [h2, h2_, h4, h4_, h6, h6_, h11, h12, h12_, h15, h15_, h15__]) (by simp [h2, h2_, h4, h4_, h6, h6_, h11, h12, h12_, h15, h15_, h15__]) (by simp) ?_
            simp only [Option.some.injEq] at hF
            subst hF
            refine AW.ret (hQ _ _ _ ?_ (matchO_0 ?_)).1
            · simp [Try.f6, h2, h2_, h4, h4_, h6, h6_, h11, h12, h12_, h15, h15_, h15__]
            · simp [h2, h2_, h4, h4_, h6, h6_, h11, h12, h12_, h15, h15_, h15__]
          · replace hF := ite_f h15 hF
            have h15q : v28 = v35 := Classical.not_not.1 h15
            have h15_ := eqb_t h15q
            have h15__ := neb_f h15q
            try simp [h2, h2_, h4, h4_, h6, h6_, h11, h12, h12_, h15_, h15__]
            repeat' apply And.intro
            try any_goals (first | omega | (unfold maxLen; omega) | (simp [h2, h2_, h4, h4_, h6, h6_, h11, h12, h12_, h15_, h15__]; done))
            obtain ⟨v36, h16, hF⟩ := bnd1_elim hF
            refine aCall_l (w_ref23_SameDraft k _ _ _ _ _ _ _ _ _ _ _ _ _ h16) (by simp) [] [] [] rfl (.cons (.same (by simp [h2, h2_, h4, h4_, h6, h6_, h11, h12, h12_, h15_, h15__])) (.cons (.same (by simp [h2, h2_, h4, h4_, h6, h6_, h11, h12, h12_, h15_, h15__])) .nil)) (by simp [h2, h2_, h4, h4_, h6, h6_, h11, h12, h12_, h15_, h15__]) (by decide) (by simp) (by simp) (.inl rfl) (by simp) (by simp) ?_
            by_cases h17 : (!v36) = true
            · replace hF := ite_t h17 hF
              have h17_ := h17
              try simp at h17_
              try simp [h2, h2_, h4, h4_, h6, h6_, h11, h12, h12_, h15_, h15__, h17, h17_]
              repeat' apply And.intro
              any_goals (first | exact hG427 _ (by kernel_rfl) | refine hR427 _ _ _ ?_ | omega | (unfold maxLen; omega) | (simp [h2, h2_, h4, h4_, h6, h6_, h11, h12, h12_, h15_, h15__, h17, h17_]; done) | (simp [h2, h2_, h4, h4_, h6, h6_, h11, h12, h12_, h15_, h15__, h17, h17_]; omega))
              refine AW.wk [(4, AV.ptr 0 0), (8, AV.ptr 1 0), (9, AV.lst false false (List.map (AV.int .i64) (v16 ++ v4))), (10, AV.int .i64 v18), (76, AV.bool true)] [(0, .cells [AV.int .i64 v1, AV.int .i64 v2, AV.lst false false (List.map (AV.int .i64) v3)]), (1, .cells [AV.int .i64 v19, AV.int .i64 v20, AV.lst false false (List.map (AV.int .i64) v21)])] 4 (by simp [h2, h2_, h4, h4_, h6, h6_, h11, h12, h12_, h15_, h15__, h17, h17_]) (by simp [h2, h2_, h4, h4_, h6, h6_, h11, h12, h12_, h15_, h15__, h17, h17_]) (by simp) ?_
              refine AW.condT (by decide) (by simp [h2, h2_, h4, h4_, h6, h6_, h11, h12, h12_, h15_, h15__, h17, h17_]) ?_
              refine AW.seqR mixed [] [none] (by kernel_rfl) fun G429 R429 hG429 hR429 => ?_
              try simp [h2, h2_, h4, h4_, h6, h6_, h11, h12, h12_, h15_, h15__, h17, h17_]
              repeat' apply And.intro
              any_goals (first | exact hG429 _ (by kernel_rfl) | refine hR429 _ _ _ ?_ | omega | (unfold maxLen; omega) | (simp [h2, h2_, h4, h4_, h6, h6_, h11, h12, h12_, h15_, h15__, h17, h17_]; done) | (simp [h2, h2_, h4, h4_, h6, h6_, h11, h12, h12_, h15_, h15__, h17, h17_]; omega))
              refine AW.wk [(6, AV.bool false)] [] 4 (by simp [h2, h2_, h4, h4_, h6, h6_, h11, h12, h12_, h15_, h15__, h17, h17_]) (by simp [h2, h2_, h4, h4_, h6, h6_, h11, h12, h12_, h15_, h15__, h17, h17_]) (by simp) ?_
              simp only [Option.some.injEq] at hF
              subst hF
              refine AW.ret (hQ _ _ _ ?_ (matchO_0 ?_)).1
              · simp [Try.f6, h2, h2_, h4, h4_, h6, h6_, h11, h12, h12_, h15_, h15__, h17, h17_]
              · simp [h2, h2_, h4, h4_, h6, h6_, h11, h12, h12_, h15_, h15__, h17, h17_]
            · replace hF := ite_f h17 hF
              have h17_ := h17
              try simp at h17_
              try simp [h2, h2_, h4, h4_, h6, h6_, h11, h12, h12_, h15_, h15__, h17, h17_]
              repeat' apply And.intro
              try any_goals (first | omega | (unfold maxLen; omega) | (simp [h2, h2_, h4, h4_, h6, h6_, h11, h12, h12_, h15_, h15__, h17, h17_]; done))
              obtain ⟨v37, h18, hF⟩ := bnd1_elim hF
              refine aCall_l (w_guardian_Valid k _ _ _ _ h18) (by simp) [] [] [] rfl (.cons (.same (by simp [h2, h2_, h4, h4_, h6, h6_, h11, h12, h12_, h15_, h15__, h17, h17_])) .nil) (by simp [h2, h2_, h4, h4_, h6, h6_, h11, h12, h12_, h15_, h15__, h17, h17_]) (by decide) (by simp) (by simp) (.inl rfl) (by simp) (by simp) ?_
              try simp [h2, h2_, h4, h4_, h6, h6_, h11, h12, h12_, h15_, h15__, h17, h17_]
              repeat' apply And.intro
              try any_goals (first | omega | (unfold maxLen; omega) | (simp [h2, h2_, h4, h4_, h6, h6_, h11, h12, h12_, h15_, h15__, h17, h17_]; done))
              obtain ⟨v38, h19, hF⟩ := bnd1_elim hF
              refine aCall_l (w_ref34_Valid k _ _ _ _ h19) (by simp) [] [] [] rfl (.cons (.same (by simp [h2, h2_, h4, h4_, h6, h6_, h11, h12, h12_, h15_, h15__, h17, h17_])) .nil) (by simp [h2, h2_, h4, h4_, h6, h6_, h11, h12, h12_, h15_, h15__, h17, h17_]) (by decide) (by simp) (by simp) (.inl rfl) (by simp) (by simp) ?_
              by_cases h20 : (v37 != v38) = true
              · replace hF := ite_t h20 hF
                have h20_ := h20
                try simp at h20_
                try simp [h2, h2_, h4, h4_, h6, h6_, h11, h12, h12_, h15_, h15__, h17, h17_, h20, h20_]
                repeat' apply And.intro
                any_goals (first | exact hG427 _ (by kernel_rfl) | refine hR427 _ _ _ ?_ | omega | (unfold maxLen; omega) | (simp [h2, h2_, h4, h4_, h6, h6_, h11, h12, h12_, h15_, h15__, h17, h17_, h20, h20_]; done) | (simp [h2, h2_, h4, h4_, h6, h6_, h11, h12, h12_, h15_, h15__, h17, h17_, h20, h20_]; omega))
                refine AW.wk [(4, AV.ptr 0 0), (8, AV.ptr 1 0), (9, AV.lst false false (List.map (AV.int .i64) (v16 ++ v4))), (10, AV.int .i64 v18), (76, AV.bool true)] [(0, .cells [AV.int .i64 v1, AV.int .i64 v2, AV.lst false false (List.map (AV.int .i64) v3)]), (1, .cells [AV.int .i64 v19, AV.int .i64 v20, AV.lst false false (List.map (AV.int .i64) v21)])] 4 (by simp [h2, h2_, h4, h4_, h6, h6_, h11, h12, h12_, h15_, h15__, h17, h17_, h20, h20_]) (by simp [h2, h2_, h4, h4_, h6, h6_, h11, h12, h12_, h15_, h15__, h17, h17_, h20, h20_]) (by simp) ?_
                refine AW.condT (by decide) (by simp [h2, h2_, h4, h4_, h6, h6_, h11, h12, h12_, h15_, h15__, h17, h17_, h20, h20_]) ?_
                refine AW.seqR mixed [] [none] (by kernel_rfl) fun G430 R430 hG430 hR430 => ?_
                try simp [h2, h2_, h4, h4_, h6, h6_, h11, h12, h12_, h15_, h15__, h17, h17_, h20, h20_]
                repeat' apply And.intro
                any_goals (first | exact hG430 _ (by kernel_rfl) | refine hR430 _ _ _ ?_ | omega | (unfold maxLen; omega) | (simp [h2, h2_, h4, h4_, h6, h6_, h11, h12, h12_, h15_, h15__, h17, h17_, h20, h20_]; done) | (simp [h2, h2_, h4, h4_, h6, h6_, h11, h12, h12_, h15_, h15__, h17, h17_, h20, h20_]; omega))
                refine AW.wk [(6, AV.bool false)] [] 4 (by simp [h2, h2_, h4, h4_, h6, h6_, h11, h12, h12_, h15_, h15__, h17, h17_, h20, h20_]) (by simp [h2, h2_, h4, h4_, h6, h6_, h11, h12, h12_, h15_, h15__, h17, h17_, h20, h20_]) (by simp) ?_
                simp only [Option.some.injEq] at hF
                subst hF
                refine AW.ret (hQ _ _ _ ?_ (matchO_0 ?_)).1
                · simp [Try.f6, h2, h2_, h4, h4_, h6, h6_, h11, h12, h12_, h15_, h15__, h17, h17_, h20, h20_]
                · simp [h2, h2_, h4, h4_, h6, h6_, h11, h12, h12_, h15_, h15__, h17, h17_, h20, h20_]
              · replace hF := ite_f h20 hF
                have h20_ := h20
                try simp at h20_
                try simp [h2, h2_, h4, h4_, h6, h6_, h11, h12, h12_, h15_, h15__, h17, h17_, h20, h20_]
                repeat' apply And.intro
                try any_goals (first | omega | (unfold maxLen; omega) | (simp [h2, h2_, h4, h4_, h6, h6_, h11, h12, h12_, h15_, h15__, h17, h17_, h20, h20_]; done))
                obtain ⟨v39, h21, hF⟩ := bnd1_elim hF
                refine aCall_l (w_guardian_Enough k _ _ _ _ _ h21) (by simp) [] [] [] rfl (.cons (.same (by simp [h2, h2_, h4, h4_, h6, h6_, h11, h12, h12_, h15_, h15__, h17, h17_, h20, h20_])) (.cons (.same (by simp [h2, h2_, h4, h4_, h6, h6_, h11, h12, h12_, h15_, h15__, h17, h17_, h20, h20_])) .nil)) (by simp [h2, h2_, h4, h4_, h6, h6_, h11, h12, h12_, h15_, h15__, h17, h17_, h20, h20_]) (by decide) (by simp) (by simp) (.inl rfl) (by simp) (by simp) ?_
                try simp [h2, h2_, h4, h4_, h6, h6_, h11, h12, h12_, h15_, h15__, h17, h17_, h20, h20_]
                repeat' apply And.intro
                try any_goals (first | omega | (unfold maxLen; omega) | (simp [h2, h2_, h4, h4_, h6, h6_, h11, h12, h12_, h15_, h15__, h17, h17_, h20, h20_]; done))
                obtain ⟨v40, h22, hF⟩ := bnd1_elim hF
                refine aCall_l (w_ref34_Enough k _ _ _ _ _ h22) (by simp) [] [] [] rfl (.cons (.same (by simp [h2, h2_, h4, h4_, h6, h6_, h11, h12, h12_, h15_, h15__, h17, h17_, h20, h20_])) (.cons (.same (by simp [h2, h2_, h4, h4_, h6, h6_, h11, h12, h12_, h15_, h15__, h17, h17_, h20, h20_])) .nil)) (by simp [h2, h2_, h4, h4_, h6, h6_, h11, h12, h12_, h15_, h15__, h17, h17_, h20, h20_]) (by decide) (by simp) (by simp) (.inl rfl) (by simp) (by simp) ?_
                try simp [h2, h2_, h4, h4_, h6, h6_, h11, h12, h12_, h15_, h15__, h17, h17_, h20, h20_]
                repeat' apply And.intro
                any_goals (first | exact hG427 _ (by kernel_rfl) | refine hR427 _ _ _ ?_ | omega | (unfold maxLen; omega) | (simp [h2, h2_, h4, h4_, h6, h6_, h11, h12, h12_, h15_, h15__, h17, h17_, h20, h20_]; done) | (simp [h2, h2_, h4, h4_, h6, h6_, h11, h12, h12_, h15_, h15__, h17, h17_, h20, h20_]; omega))
                refine AW.wk [(4, AV.ptr 0 0), (8, AV.ptr 1 0), (9, AV.lst false false (List.map (AV.int .i64) (v16 ++ v4))), (10, AV.int .i64 v18), (76, AV.bool (v39 != v40))] [(0, .cells [AV.int .i64 v1, AV.int .i64 v2, AV.lst false false (List.map (AV.int .i64) v3)]), (1, .cells [AV.int .i64 v19, AV.int .i64 v20, AV.lst false false (List.map (AV.int .i64) v21)])] 4 (by simp [h2, h2_, h4, h4_, h6, h6_, h11, h12, h12_, h15_, h15__, h17, h17_, h20, h20_]) (by simp [h2, h2_, h4, h4_, h6, h6_, h11, h12, h12_, h15_, h15__, h17, h17_, h20, h20_]) (by simp) ?_
                by_cases h23 : (v39 != v40) = true
                · replace hF := ite_t h23 hF
                  have h23_ := h23
                  try simp at h23_
                  refine AW.condT (by decide) (by first | (simp [h2, h2_, h4, h4_, h6, h6_, h11, h12, h12_, h15_, h15__, h17, h17_, h20, h20_, h23, h23_]; done) | (simp [h2, h2_, h4, h4_, h6, h6_, h11, h12, h12_, h15_, h15__, h17, h17_, h20, h20_, h23, h23_]; omega)) ?_
                  refine AW.seqR mixed [] [none] (by kernel_rfl) fun G431 R431 hG431 hR431 => ?_
                  try simp [h2, h2_, h4, h4_, h6, h6_, h11, h12, h12_, h15_, h15__, h17, h17_, h20, h20_, h23, h23_]
                  repeat' apply And.intro
                  any_goals (first | exact hG431 _ (by kernel_rfl) | refine hR431 _ _ _ ?_ | omega | (unfold maxLen; omega) | (simp [h2, h2_, h4, h4_, h6, h6_, h11, h12, h12_, h15_, h15__, h17, h17_, h20, h20_, h23, h23_]; done) | (simp [h2, h2_, h4, h4_, h6, h6_, h11, h12, h12_, h15_, h15__, h17, h17_, h20, h20_, h23, h23_]; omega))
                  refine AW.wk [(6, AV.bool false)] [] 4 (by simp [h2, h2_, h4, h4_, h6, h6_, h11, h12, h12_, h15_, h15__, h17, h17_, h20, h20_, h23, h23_]) (by simp [h2, h2_, h4, h4_, h6, h6_, h11, h12, h12_, h15_, h15__, h17, h17_, h20, h20_, h23, h23_]) (by simp) ?_
                  simp only [Option.some.injEq] at hF
                  subst hF
                  refine AW.ret (hQ _ _ _ ?_ (matchO_0 ?_)).1
                  · simp [Try.f6, h2, h2_, h4, h4_, h6, h6_, h11, h12, h12_, h15_, h15__, h17, h17_, h20, h20_, h23, h23_]
                  · simp [h2, h2_, h4, h4_, h6, h6_, h11, h12, h12_, h15_, h15__, h17, h17_, h20, h20_, h23, h23_]
                · replace hF := ite_f h23 hF
                  have h23_ := h23
                  try simp at h23_
                  refine AW.condF (by decide) (by first | (simp [h2, h2_, h4, h4_, h6, h6_, h11, h12, h12_, h15_, h15__, h17, h17_, h20, h20_, h23, h23_]; done) | (simp [h2, h2_, h4, h4_, h6, h6_, h11, h12, h12_, h15_, h15__, h17, h17_, h20, h20_, h23, h23_]; omega)) ?_
                  refine AW.skip ?_
                  refine hK426 _ _ _ ?_
                  refine AW.region mixed [] [none, none] (by kernel_rfl) fun G432 R432 hG432 hR432 => ?_
                  try simp [h2, h2_, h4, h4_, h6, h6_, h11, h12, h12_, h15_, h15__, h17, h17_, h20, h20_, h23, h23_]
                  repeat' apply And.intro
                  any_goals (first | exact hG432 _ (by kernel_rfl) | refine hR432 _ _ _ ?_ | omega | (unfold maxLen; omega) | (simp [h2, h2_, h4, h4_, h6, h6_, h11, h12, h12_, h15_, h15__, h17, h17_, h20, h20_, h23, h23_]; done) | (simp [h2, h2_, h4, h4_, h6, h6_, h11, h12, h12_, h15_, h15__, h17, h17_, h20, h20_, h23, h23_]; omega))
                  refine hK418 _ _ _ ?_
                  refine AW.wk [(4, AV.ptr 0 0), (8, AV.ptr 1 0), (9, AV.lst false false (List.map (AV.int .i64) (v16 ++ v4))), (10, AV.int .i64 v18)] [(0, .cells [AV.int .i64 v1, AV.int .i64 v2, AV.lst false false (List.map (AV.int .i64) v3)]), (1, .cells [AV.int .i64 v1, AV.int .i64 v2, AV.lst false false (List.map (AV.int .i64) v3)])] 4 (by simp [h2, h2_, h4, h4_, h6, h6_, h11, h12, h12_, h15_, h15__, h17, h17_, h20, h20_, h23, h23_]) (by simp [h2, h2_, h4, h4_, h6, h6_, h11, h12, h12_, h15_, h15__, h17, h17_, h20, h20_, h23, h23_]) (by simp) ?_
                  refine AW.region mixed [] [none, none, none] (by kernel_rfl) fun G433 R433 hG433 hR433 => ?_
                  try simp [h2, h2_, h4, h4_, h6, h6_, h11, h12, h12_, h15_, h15__, h17, h17_, h20, h20_, h23, h23_]
                  repeat' apply And.intro
                  any_goals (first | exact hG433 _ (by kernel_rfl) | refine hR433 _ _ _ ?_ | omega | (unfold maxLen; omega) | (simp [h2, h2_, h4, h4_, h6, h6_, h11, h12, h12_, h15_, h15__, h17, h17_, h20, h20_, h23, h23_]; done) | (simp [h2, h2_, h4, h4_, h6, h6_, h11, h12, h12_, h15_, h15__, h17, h17_, h20, h20_, h23, h23_]; omega))
                  refine hK400 _ _ _ ?_
                  refine Can.weak [(4, AV.ptr 0 0), (8, AV.ptr 1 0), (9, AV.lst false false (List.map (AV.int .i64) (v16 ++ v4))), (10, AV.int .i64 (IntKind.wrap .i64 (v18 + 1)))] [(0, .cells [AV.int .i64 v1, AV.int .i64 v2, AV.lst false false (List.map (AV.int .i64) v3)]), (1, .cells [AV.int .i64 v1, AV.int .i64 v2, AV.lst false false (List.map (AV.int .i64) v3)])] 4 (by simp [h2, h2_, h4, h4_, h6, h6_, h11, h12, h12_, h15_, h15__, h17, h17_, h20, h20_, h23, h23_]) (by simp [h2, h2_, h4, h4_, h6, h6_, h11, h12, h12_, h15_, h15__, h17, h17_, h20, h20_, h23, h23_]) (by simp) ?_
                  refine Can.ren (m := 0) h0 [(0, 0), (1, 1)] [(4, AV.ptr 0 0), (8, AV.ptr 1 0), (9, AV.lst false false (List.map (AV.int .i64) (v16 ++ v4))), (10, AV.int .i64 (IntKind.wrap .i64 (v18 + 1)))] [(0, .cells [AV.int .i64 v1, AV.int .i64 v2, AV.lst false false (List.map (AV.int .i64) v3)]), (1, .cells [AV.int .i64 v1, AV.int .i64 v2, AV.lst false false (List.map (AV.int .i64) v3)])] 2 (by decide) (by decide) (by decide) rfl (by simp [h2, h2_, h4, h4_, h6, h6_, h11, h12, h12_, h15_, h15__, h17, h17_, h20, h20_, h23, h23_]) (by simp [h2, h2_, h4, h4_, h6, h6_, h11, h12, h12_, h15_, h15__, h17, h17_, h20, h20_, h23, h23_]) ?_
                  exact Can.next (k' := n1) ((IntKind.wrap .i64 (v18 + 1), v1, v2, v3)) (by omega) hF (by simp [h2, h2_, h4, h4_, h6, h6_, h11, h12, h12_, h15_, h15__, h17, h17_, h20, h20_, h23, h23_]) (by simp [h2, h2_, h4, h4_, h6, h6_, h11, h12, h12_, h15_, h15__, h17, h17_, h20, h20_, h23, h23_]) (by simp)
        · replace hF := ite_f h12 hF
          have h12_ := h12
          try simp at h12_
          refine AW.condF (by decide) (by first | (simp [h2, h2_, h4, h4_, h6, h6_, h11, h12, h12_]; done) | (simp [h2, h2_, h4, h4_, h6, h6_, h11, h12, h12_]; omega)) ?_
          refine AW.exit ?_
          try simp
          refine hK332 _ _ _ ?_
          refine AW.seqR mixed [] [none, none] (by kernel_rfl) fun G434 R434 hG434 hR434 => ?_
          try simp [h2, h2_, h4, h4_, h6, h6_, h11, h12, h12_]
          repeat' apply And.intro
          try any_goals (first | omega | (unfold maxLen; omega) | (simp [h2, h2_, h4, h4_, h6, h6_, h11, h12, h12_]; done))
          obtain ⟨v41, h24, hF⟩ := bnd1_elim hF
          refine aCall_l (w_law34_awake k _ h24) (by simp) [] [] [] rfl .nil (by simp [h2, h2_, h4, h4_, h6, h6_, h11, h12, h12_]) (by decide) (by simp) (by simp) (.inl rfl) (by simp) (by simp) ?_
          try simp [h2, h2_, h4, h4_, h6, h6_, h11, h12, h12_]
          repeat' apply And.intro
          any_goals (first | exact hG434 _ (by kernel_rfl) | refine hR434 _ _ _ ?_ | omega | (unfold maxLen; omega) | (simp [h2, h2_, h4, h4_, h6, h6_, h11, h12, h12_]; done) | (simp [h2, h2_, h4, h4_, h6, h6_, h11, h12, h12_]; omega))
          refine AW.wk [(6, AV.bool v41)] [] 2 (by simp [h2, h2_, h4, h4_, h6, h6_, h11, h12, h12_]) (by simp [h2, h2_, h4, h4_, h6, h6_, h11, h12, h12_]) (by simp) ?_
          simp only [Option.some.injEq] at hF
          subst hF
          refine AW.ret (hQ _ _ _ ?_ (matchO_0 ?_)).1
          · simp [Try.f6, h2, h2_, h4, h4_, h6, h6_, h11, h12, h12_]
          · simp [h2, h2_, h4, h4_, h6, h6_, h11, h12, h12_]
end Go.TF
