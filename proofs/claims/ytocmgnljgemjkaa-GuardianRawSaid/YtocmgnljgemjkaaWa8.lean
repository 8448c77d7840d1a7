/- Walks: the Go text computes the Lean functions (printed by a program of our own). -/
import Derived.Test.YtocmgnljgemjkaaPu
import Derived.Test.YtocmgnljgemjkaaAbsT
import Derived.Test.YtocmgnljgemjkaaWa0
import Derived.Test.YtocmgnljgemjkaaWa1
import Derived.Test.YtocmgnljgemjkaaWa2
set_option linter.unusedVariables false
set_option linter.unusedSimpArgs false
set_option maxRecDepth 100000
namespace Go.TF
open Go Go.Abs Go.Proofs Go.Proofs.YtocmgnljgemjkaaT
set_option maxHeartbeats 4000000 in
theorem w_slices_Clone_int_int (k : Nat) (v0 : (List Int)) (v1 : (List Int)) (hF : slices_Clone_int_int k v0 = some v1) :
    FCall Try.prog 77 [AV.lst false false (List.map (AV.int .i64) v0)] [] (AV.slc 0 0 1 v1.length false) [some (.grow (List.map (AV.int .i64) v1))] := by
  unfold slices_Clone_int_int at hF
  obtain ⟨h1, hF⟩ := chk_elim hF
  simp only [Option.some.injEq] at hF
  subst hF
  refine FCall.enter Try.func77 rfl (by simp) (by decide) (by simp) (by simp) (by simp) (by simp) (by simp) ?_
  intro c0 w0 Q h0 hQ
  refine AW.wk [(0, AV.lst false false (List.map (AV.int .i64) v0))] [] 0 (by simp) (by simp) (by simp) ?_
  refine AW.seqR mixed [] [none] (by kernel_rfl) fun G0 R0 hG0 hR0 => ?_
  simp
  refine ⟨hG0 _ (by kernel_rfl), hR0 _ _ _ ?_⟩
  refine AW.wk [(0, AV.lst false false (List.map (AV.int .i64) v0))] [] 0 (by simp) (by simp) (by simp) ?_
  refine AW.nilSplit (fl := false) (xs := List.map (AV.int .i64) v0) 0 (by decide) (by simp) (fun hx => ?_) ?_
  · simp at hx
    subst hx
    refine AW.wk [(0, AV.lst true false [])] [] 0 (by simp) (by simp) (by simp) ?_
    refine AW.seq fun K2 hK2 => ?_
    refine AW.seqR mixed [] [none, none] (by kernel_rfl) fun G1 R1 hG1 hR1 => ?_
    simp
    refine ⟨hG1 _ (by kernel_rfl), hR1 _ _ _ ?_⟩
    refine AW.wk [(4, AV.bool true)] [] 0 (by simp) (by simp) (by simp) ?_
    refine AW.condT (by decide) (by simp) ?_
    refine AW.seqR mixed [] [none] (by kernel_rfl) fun G3 R3 hG3 hR3 => ?_
    simp
    refine ⟨hG3 _ (by kernel_rfl), hR3 _ _ _ ?_⟩
    refine AW.wk [(2, AV.lst true true [])] [] 0 (by simp) (by simp) (by simp) ?_
    refine AW.own' 2 1 true (by simp) (by decide) ?_
    refine AW.ret (hQ _ _ _ ?_ (matchO_0 ?_)).1
    · simp [Try.f77]
    · simp
  · refine AW.wk [(0, AV.nn (AV.lst false false (List.map (AV.int .i64) v0)))] [] 0 (by simp) (by simp) (by simp) ?_
    refine AW.seq fun K2 hK2 => ?_
    refine AW.seqR mixed [] [none, none] (by kernel_rfl) fun G1 R1 hG1 hR1 => ?_
    simp
    refine ⟨hG1 _ (by kernel_rfl), hR1 _ _ _ ?_⟩
    refine AW.wk [(0, AV.nn (AV.lst false false (List.map (AV.int .i64) v0))), (4, AV.bool false)] [] 0 (by simp) (by simp) (by simp) ?_
    refine AW.flg [(0, AV.lst false false (List.map (AV.int .i64) v0))] [] ⟨.nn, trivial⟩ trivial (by decide) ?_
    refine AW.wk [(0, AV.lst false false (List.map (AV.int .i64) v0)), (4, AV.bool false)] [] 0 (by simp) (by simp) (by simp) ?_
    refine AW.condF (by decide) (by simp) ?_
    refine AW.skip ?_
    refine hK2 _ _ _ ?_
    refine AW.seqR mixed [7] [none, none, none, none] (by kernel_rfl) fun G3 R3 hG3 hR3 => ?_
    simp
    repeat' apply And.intro
    any_goals (first | exact hG3 _ (by kernel_rfl) | refine hR3 _ _ _ ?_ | omega | (unfold maxLen; omega))
    refine AW.wk [(2, AV.slc 0 0 1 v0.length false)] [(0, .grow (List.map (AV.int .i64) v0))] 1 (by simp) (by simp) (by simp) ?_
    refine AW.ret (hQ _ _ _ ?_ (matchO_0 ?_)).1
    · simp [Try.f77]
    · simp
set_option maxHeartbeats 4000000 in
theorem w_guardian_Draft (k : Nat) (v0 : Int) (v1 : Int) (v2 : (List Int)) (v3 : Int) (v4 : Int) (v5 : Int) (v6 : Int) (v7 : (List Int)) (v8 : (List api_Pin)) (v9 : Int) (hF : guardian_Draft k v0 v1 v2 = some (v3, v4, v5, v6, v7, v8, v9)) :
    FCall Try.prog 39 [AV.agg [AV.int .i64 v0, AV.int .i64 v1, AV.lst false false (List.map (AV.int .i64) v2)]] [] (AV.tup [AV.agg [AV.int .i64 v3, AV.int .i64 v4, AV.int .i64 v5, AV.int .i64 v6, AV.lst false false (List.map (AV.int .i64) v7), AV.lst false false (List.map api_Pin.av v8)], AV.int .i64 v9]) [] := by
  unfold guardian_Draft at hF
  refine FCall.enter Try.func39 rfl (by simp) (by decide) (by simp) (by simp) (by simp) (by simp) (by simp) ?_
  intro c0 w0 Q h0 hQ
  refine AW.wk [(0, AV.agg [AV.int .i64 v0, AV.int .i64 v1, AV.lst false false (List.map (AV.int .i64) v2)])] [] 0 (by simp) (by simp) (by simp) ?_
  refine AW.seqR mixed [] [none, none, none] (by kernel_rfl) fun G8 R8 hG8 hR8 => ?_
  try simp
  repeat' apply And.intro
  any_goals (first | exact hG8 _ (by kernel_rfl) | refine hR8 _ _ _ ?_ | omega | (unfold maxLen; omega) | (simp; done) | (simp; omega))
  refine AW.wk [(1, AV.ptr 0 0), (2, AV.ptr 1 0)] [(0, .cells [AV.int .i64 v0, AV.int .i64 v1, AV.lst false false (List.map (AV.int .i64) v2)]), (1, .cells [AV.int .i64 0, AV.int .i64 0, AV.int .i64 0, AV.int .i64 0, AV.lst true true (List.map (AV.int .i64) ([] : List Int)), AV.lst true true (List.map api_Pin.av ([] : List api_Pin))])] 2 (by simp) (by simp) (by simp) ?_
  refine AW.seq fun K11 hK11 => ?_
  refine AW.seqR mixed [] [none, none, none] (by kernel_rfl) fun G12 R12 hG12 hR12 => ?_
  try simp
  repeat' apply And.intro
  try any_goals (first | omega | (unfold maxLen; omega) | (simp; done))
  obtain ⟨v10, h1, hF⟩ := bnd1_elim hF
  refine aCall_l (w_guardian_Valid k _ _ _ _ h1) (by simp) [] [] [] rfl (.cons (.same (by simp)) .nil) (by simp) (by decide) (by simp) (by simp) (.inl rfl) (by simp) (by simp) ?_
  try simp
  repeat' apply And.intro
  any_goals (first | exact hG12 _ (by kernel_rfl) | refine hR12 _ _ _ ?_ | omega | (unfold maxLen; omega) | (simp; done) | (simp; omega))
  refine AW.wk [(1, AV.ptr 0 0), (2, AV.ptr 1 0), (6, AV.bool (!v10))] [(0, .cells [AV.int .i64 v0, AV.int .i64 v1, AV.lst false false (List.map (AV.int .i64) v2)]), (1, .cells [AV.int .i64 0, AV.int .i64 0, AV.int .i64 0, AV.int .i64 0, AV.lst true true (List.map (AV.int .i64) ([] : List Int)), AV.lst true true (List.map api_Pin.av ([] : List api_Pin))])] 2 (by simp) (by simp) (by simp) ?_
  by_cases h2 : (!v10) = true
  · replace hF := ite_t h2 hF
    have h2_ := h2
    try simp at h2_
    refine AW.condT (by decide) (by first | (simp [h2, h2_]; done) | (simp [h2, h2_]; omega)) ?_
    refine AW.seqR mixed [] [none, none, none] (by kernel_rfl) fun G13 R13 hG13 hR13 => ?_
    try simp [h2, h2_]
    repeat' apply And.intro
    any_goals (first | exact hG13 _ (by kernel_rfl) | refine hR13 _ _ _ ?_ | omega | (unfold maxLen; omega) | (simp [h2, h2_]; done) | (simp [h2, h2_]; omega))
    refine AW.wk [(2, AV.ptr 1 0), (3, AV.int .i64 47)] [(1, .cells [AV.int .i64 0, AV.int .i64 0, AV.int .i64 0, AV.int .i64 0, AV.lst true true (List.map (AV.int .i64) ([] : List Int)), AV.lst true true (List.map api_Pin.av ([] : List api_Pin))])] 2 (by simp [h2, h2_]) (by simp [h2, h2_]) (by simp) ?_
    refine AW.rnm (m := 0) h0 [(0, 1)] [(2, AV.ptr 0 0), (3, AV.int .i64 47)] [(0, .cells [AV.int .i64 0, AV.int .i64 0, AV.int .i64 0, AV.int .i64 0, AV.lst true true (List.map (AV.int .i64) ([] : List Int)), AV.lst true true (List.map api_Pin.av ([] : List api_Pin))])] 1 (by decide) (by decide) (by decide) rfl (by simp [h2, h2_]) (by simp [h2, h2_]) ?_
    refine AW.flg [] [(0, .cells [AV.int .i64 0, AV.int .i64 0, AV.int .i64 0, AV.int .i64 0, AV.lst false false (List.map (AV.int .i64) ([] : List Int)), AV.lst false false (List.map api_Pin.av ([] : List api_Pin))])] trivial ⟨⟨AObj.cells [AV.int .i64 0, AV.int .i64 0, AV.int .i64 0, AV.int .i64 0, AV.lst true true (List.map (AV.int .i64) ([] : List Int)), AV.lst true true (List.map api_Pin.av ([] : List api_Pin))], by simp [h2, h2_], (.mk (.cons (.same _) (.cons (.same _) (.cons (.same _) (.cons (.same _) (.cons (.lst (by simp)) (.cons (.lst (by simp)) .nil)))))))⟩, trivial⟩ (by simp) ?_
    simp only [Option.some.injEq, Prod.mk.injEq] at hF
    obtain ⟨e0, e1, e2, e3, e4, e5, e6⟩ := hF
    subst e0 e1 e2 e3 e4 e5 e6
    refine AW.ret (hQ _ _ _ ?_ (matchO_0 ?_)).1
    · simp [Try.f39, h2, h2_]
    · simp [h2, h2_]
  · replace hF := ite_f h2 hF
    have h2_ := h2
    try simp at h2_
    refine AW.condF (by decide) (by first | (simp [h2, h2_]; done) | (simp [h2, h2_]; omega)) ?_
    refine AW.skip ?_
    refine hK11 _ _ _ ?_
    refine AW.seqR mixed [] [none, none, none, none, none, none, none, none] (by kernel_rfl) fun G14 R14 hG14 hR14 => ?_
    try simp [h2, h2_]
    repeat' apply And.intro
    try any_goals (first | omega | (unfold maxLen; omega) | (simp [h2, h2_]; done))
    obtain ⟨v11, h3, hF⟩ := bnd1_elim hF
    refine aCall_l (w_slices_Clone_int_int k _ _ h3) (by simp) [] [] [] rfl (.cons (.same (by simp [h2, h2_])) .nil) (by simp [h2, h2_]) (by decide) (by simp) (by simp) (.inl rfl) (by simp) (by simp) ?_
    try simp [h2, h2_]
    repeat' apply And.intro
    any_goals (first | exact hG14 _ (by kernel_rfl) | refine hR14 _ _ _ ?_ | omega | (unfold maxLen; omega) | (simp [h2, h2_]; done) | (simp [h2, h2_]; omega))
    refine AW.wk [(2, AV.ptr 1 0), (3, AV.int .i64 0)] [(1, .cells [AV.int .i64 12, AV.int .i64 v1, AV.int .i64 0, AV.int .i64 0, AV.slc 2 0 1 v11.length false, AV.lst true true (List.map api_Pin.av ([] : List api_Pin))]), (2, .grow (List.map (AV.int .i64) v11))] 3 (by simp [h2, h2_]) (by simp [h2, h2_]) (by simp) ?_
    refine AW.frz 2 (o := .grow (List.map (AV.int .i64) v11)) (by simp [h2, h2_]) rfl [] [(1, .cells [AV.int .i64 12, AV.int .i64 v1, AV.int .i64 0, AV.int .i64 0, AV.lst false false (List.map (AV.int .i64) v11), AV.lst true true (List.map api_Pin.av ([] : List api_Pin))])] trivial ⟨⟨by simp, AObj.cells [AV.int .i64 12, AV.int .i64 v1, AV.int .i64 0, AV.int .i64 0, AV.slc 2 0 1 v11.length false, AV.lst true true (List.map api_Pin.av ([] : List api_Pin))], by simp [h2, h2_], (.mk (.cons (.same _) (.cons (.same _) (.cons (.same _) (.cons (.same _) (.cons (.l (by simp) (by simp) (by simp) (by simp)) (.cons (.same _) .nil)))))))⟩, trivial⟩ ?_
    refine AW.wk [(2, AV.ptr 1 0), (3, AV.int .i64 0)] [(1, .cells [AV.int .i64 12, AV.int .i64 v1, AV.int .i64 0, AV.int .i64 0, AV.lst false false (List.map (AV.int .i64) v11), AV.lst true true (List.map api_Pin.av ([] : List api_Pin))])] 3 (by simp [h2, h2_]) (by simp [h2, h2_]) (by simp) ?_
    refine AW.rnm (m := 0) h0 [(0, 1)] [(2, AV.ptr 0 0), (3, AV.int .i64 0)] [(0, .cells [AV.int .i64 12, AV.int .i64 v1, AV.int .i64 0, AV.int .i64 0, AV.lst false false (List.map (AV.int .i64) v11), AV.lst true true (List.map api_Pin.av ([] : List api_Pin))])] 1 (by decide) (by decide) (by decide) rfl (by simp [h2, h2_]) (by simp [h2, h2_]) ?_
    refine AW.flg [] [(0, .cells [AV.int .i64 12, AV.int .i64 v1, AV.int .i64 0, AV.int .i64 0, AV.lst false false (List.map (AV.int .i64) v11), AV.lst false false (List.map api_Pin.av ([] : List api_Pin))])] trivial ⟨⟨AObj.cells [AV.int .i64 12, AV.int .i64 v1, AV.int .i64 0, AV.int .i64 0, AV.lst false false (List.map (AV.int .i64) v11), AV.lst true true (List.map api_Pin.av ([] : List api_Pin))], by simp [h2, h2_], (.mk (.cons (.same _) (.cons (.same _) (.cons (.same _) (.cons (.same _) (.cons (.same _) (.cons (.lst (by simp)) .nil)))))))⟩, trivial⟩ (by simp) ?_
    simp only [Option.some.injEq, Prod.mk.injEq] at hF
    obtain ⟨e0, e1, e2, e3, e4, e5, e6⟩ := hF
    subst e0 e1 e2 e3 e4 e5 e6
    refine AW.ret (hQ _ _ _ ?_ (matchO_0 ?_)).1
    · simp [Try.f39, h2, h2_]
    · simp [h2, h2_]
set_option maxHeartbeats 4000000 in
theorem w_ref24_Valid (k : Nat) (v0 : (List Int)) (v1 : Bool) (hF : ref24_Valid k v0 = some v1) :
    FCall Try.prog 70 [AV.lst false false (List.map (AV.int .i64) v0)] [] (AV.bool v1) [] := by
  unfold ref24_Valid at hF
  refine FCall.enter Try.func70 rfl (by simp) (by decide) (by simp) (by simp) (by simp) (by simp) (by simp) ?_
  intro c0 w0 Q h0 hQ
  refine AW.wk [(0, AV.lst false false (List.map (AV.int .i64) v0))] [] 0 (by simp) (by simp) (by simp) ?_
  refine AW.seqR mixed [] [none] (by kernel_rfl) fun G89 R89 hG89 hR89 => ?_
  try simp
  repeat' apply And.intro
  any_goals (first | exact hG89 _ (by kernel_rfl) | refine hR89 _ _ _ ?_ | omega | (unfold maxLen; omega) | (simp; done) | (simp; omega))
  refine AW.wk [(0, AV.lst false false (List.map (AV.int .i64) v0))] [] 0 (by simp) (by simp) (by simp) ?_
  refine AW.seq fun K93 hK93 => ?_
  refine AW.seqR mixed [] [none, none, none, none, some (7, false), some (7, false), some (7, false), none] (by kernel_rfl) fun G94 R94 hG94 hR94 => ?_
  by_cases h1 : (v0.length : Int) = 0
  · replace hF := ite_t h1 hF
    have h1q : (v0.length : Int) = 0 := h1
    have h1_ := eqb_t h1q
    have h1__ := neb_f h1q
    try simp [h1_, h1__, h1q]
    repeat' apply And.intro
    any_goals (first | exact hG94 _ (by kernel_rfl) | refine hR94 _ _ _ ?_ | omega | (unfold maxLen; omega) | (simp [h1_, h1__, h1q]; done) | (simp [h1_, h1__, h1q]; omega))
    refine AW.wk [(0, AV.lst false false (List.map (AV.int .i64) v0)), (11, AV.bool true)] [] 0 (by simp [h1_, h1__, h1q]) (by simp [h1_, h1__, h1q]) (by simp) ?_
    refine AW.condT (by decide) (by simp [h1_, h1__, h1q]) ?_
    refine AW.seqR mixed [] [none] (by kernel_rfl) fun G95 R95 hG95 hR95 => ?_
    try simp [h1_, h1__, h1q]
    repeat' apply And.intro
    any_goals (first | exact hG95 _ (by kernel_rfl) | refine hR95 _ _ _ ?_ | omega | (unfold maxLen; omega) | (simp [h1_, h1__, h1q]; done) | (simp [h1_, h1__, h1q]; omega))
    refine AW.wk [(2, AV.bool false)] [] 0 (by simp [h1_, h1__, h1q]) (by simp [h1_, h1__, h1q]) (by simp) ?_
    simp only [Option.some.injEq] at hF
    subst hF
    refine AW.ret (hQ _ _ _ ?_ (matchO_0 ?_)).1
    · simp [Try.f70, h1_, h1__, h1q]
    · simp [h1_, h1__, h1q]
  · replace hF := ite_f h1 hF
    have h1_ := eqb_f h1
    have h1__ := neb_t h1
    try simp [h1, h1_, h1__]
    repeat' apply And.intro
    any_goals (first | exact hG94 _ (by kernel_rfl) | refine hR94 _ _ _ ?_ | omega | (unfold maxLen; omega) | (simp [h1, h1_, h1__]; done) | (simp [h1, h1_, h1__]; omega))
    refine AW.wk [(0, AV.lst false false (List.map (AV.int .i64) v0)), (11, AV.bool (decide (64 < (v0.length : Int))))] [] 0 (by simp [h1, h1_, h1__]) (by simp [h1, h1_, h1__]) (by simp) ?_
    by_cases h2 : 64 < (v0.length : Int)
    · replace hF := ite_t h2 hF
      have h2_ := h2
      try simp at h2_
      refine AW.condT (by decide) (by first | (simp [h1, h1_, h1__, h2, h2_]; done) | (simp [h1, h1_, h1__, h2, h2_]; omega)) ?_
      refine AW.seqR mixed [] [none] (by kernel_rfl) fun G96 R96 hG96 hR96 => ?_
      try simp [h1, h1_, h1__, h2, h2_]
      repeat' apply And.intro
      any_goals (first | exact hG96 _ (by kernel_rfl) | refine hR96 _ _ _ ?_ | omega | (unfold maxLen; omega) | (simp [h1, h1_, h1__, h2, h2_]; done) | (simp [h1, h1_, h1__, h2, h2_]; omega))
      refine AW.wk [(2, AV.bool false)] [] 0 (by simp [h1, h1_, h1__, h2, h2_]) (by simp [h1, h1_, h1__, h2, h2_]) (by simp) ?_
      simp only [Option.some.injEq] at hF
      subst hF
      refine AW.ret (hQ _ _ _ ?_ (matchO_0 ?_)).1
      · simp [Try.f70, h1, h1_, h1__, h2, h2_]
      · simp [h1, h1_, h1__, h2, h2_]
    · replace hF := ite_f h2 hF
      have h2_ := h2
      try simp at h2_
      refine AW.condF (by decide) (by first | (simp [h1, h1_, h1__, h2, h2_]; done) | (simp [h1, h1_, h1__, h2, h2_]; omega)) ?_
      refine AW.skip ?_
      refine hK93 _ _ _ ?_
      refine AW.seq fun K136 hK136 => ?_
      refine AW.seqR mixed [] [none] (by kernel_rfl) fun G137 R137 hG137 hR137 => ?_
      try simp [h1, h1_, h1__, h2, h2_]
      repeat' apply And.intro
      any_goals (first | exact hG137 _ (by kernel_rfl) | refine hR137 _ _ _ ?_ | omega | (unfold maxLen; omega) | (simp [h1, h1_, h1__, h2, h2_]; done) | (simp [h1, h1_, h1__, h2, h2_]; omega))
      refine AW.wk [(0, AV.lst false false (List.map (AV.int .i64) v0)), (3, AV.int .i64 0)] [] 0 (by simp [h1, h1_, h1__, h2, h2_]) (by simp [h1, h1_, h1__, h2, h2_]) (by simp) ?_
      refine AW.block ?_
      refine AW.loopF (α := Int) (fun n v2 => ref24_Valid.L1 k v0 n v2 = some v1) (fun v2 => [(0, AV.lst false false (List.map (AV.int .i64) v0)), (3, AV.int .i64 v2)]) (fun v2 => []) 0 k (0) hF (by simp [h1, h1_, h1__, h2, h2_]) (by simp [h1, h1_, h1__, h2, h2_]) (by simp) ?_
      rintro (_|n1) v2 hF K162 hK162
      · try dsimp only at hF
        rw [ref24_Valid.L1] at hF; cases hF
      try dsimp only at hF
      rw [ref24_Valid.L1] at hF
      refine AW.seq fun K164 hK164 => ?_
      refine AW.seqR mixed [] [none, none, none, none] (by kernel_rfl) fun G165 R165 hG165 hR165 => ?_
      try simp [h1, h1_, h1__, h2, h2_]
      repeat' apply And.intro
      any_goals (first | exact hG165 _ (by kernel_rfl) | refine hR165 _ _ _ ?_ | omega | (unfold maxLen; omega) | (simp [h1, h1_, h1__, h2, h2_]; done) | (simp [h1, h1_, h1__, h2, h2_]; omega))
      refine AW.wk [(0, AV.lst false false (List.map (AV.int .i64) v0)), (3, AV.int .i64 v2), (15, AV.bool (decide (v2 < (v0.length : Int))))] [] 0 (by simp [h1, h1_, h1__, h2, h2_]) (by simp [h1, h1_, h1__, h2, h2_]) (by simp) ?_
      by_cases h3 : v2 < (v0.length : Int)
      · replace hF := ite_t h3 hF
        have h3_ := h3
        try simp at h3_
        refine AW.condT (by decide) (by first | (simp [h1, h1_, h1__, h2, h2_, h3, h3_]; done) | (simp [h1, h1_, h1__, h2, h2_, h3, h3_]; omega)) ?_
        refine AW.skip ?_
        refine hK164 _ _ _ ?_
        refine AW.midF (α := Unit) (fun _ => ref24_Valid.J2 k v2 (fun v2_ => ref24_Valid.L1 k v0 n1 v2_) = some v1) (fun _ => [(0, AV.lst false false (List.map (AV.int .i64) v0)), (3, AV.int .i64 v2)]) (fun _ => []) 0 (fun K171 hK171 => ?_) ?_
        · refine AW.block ?_
          refine AW.seqR mixed [] [none, none, none, none, none, none, some (23, false), some (23, false), some (23, false), some (23, false), some (23, false), none, none, some (30, false), some (30, false), some (30, false), some (33, true), some (33, true), some (33, true), some (33, true), some (33, true), some (33, true), some (33, true), some (33, true), some (33, true), some (33, true), some (30, false), none] (by kernel_rfl) fun G172 R172 hG172 hR172 => ?_
          obtain ⟨v3, h4, h5, h6, hF⟩ := idx_elim hF
          have h6_ := get_of h6
          try simp at h6_
          have h5_ := h5
          try simp at h5_
          by_cases h7 : v3 < 0
          · replace hF := ite_t h7 hF
            have h7_ := h7
            try simp at h7_
            try simp [h1, h1_, h1__, h2, h2_, h3, h3_, h4, h5, h6, h6_, h5_, h7, h7_]
            repeat' apply And.intro
            any_goals (first | exact hG172 _ (by kernel_rfl) | refine hR172 _ _ _ ?_ | omega | (unfold maxLen; omega) | (simp [h1, h1_, h1__, h2, h2_, h3, h3_, h4, h5, h6, h6_, h5_, h7, h7_]; done) | (simp [h1, h1_, h1__, h2, h2_, h3, h3_, h4, h5, h6, h6_, h5_, h7, h7_]; omega))
            refine AW.wk [(0, AV.lst false false (List.map (AV.int .i64) v0)), (3, AV.int .i64 v2), (45, AV.bool true)] [] 0 (by simp [h1, h1_, h1__, h2, h2_, h3, h3_, h4, h5, h6, h6_, h5_, h7, h7_]) (by simp [h1, h1_, h1__, h2, h2_, h3, h3_, h4, h5, h6, h6_, h5_, h7, h7_]) (by simp) ?_
            refine AW.condT (by decide) (by simp [h1, h1_, h1__, h2, h2_, h3, h3_, h4, h5, h6, h6_, h5_, h7, h7_]) ?_
            refine AW.seqR mixed [] [none] (by kernel_rfl) fun G173 R173 hG173 hR173 => ?_
            try simp [h1, h1_, h1__, h2, h2_, h3, h3_, h4, h5, h6, h6_, h5_, h7, h7_]
            repeat' apply And.intro
            any_goals (first | exact hG173 _ (by kernel_rfl) | refine hR173 _ _ _ ?_ | omega | (unfold maxLen; omega) | (simp [h1, h1_, h1__, h2, h2_, h3, h3_, h4, h5, h6, h6_, h5_, h7, h7_]; done) | (simp [h1, h1_, h1__, h2, h2_, h3, h3_, h4, h5, h6, h6_, h5_, h7, h7_]; omega))
            refine AW.wk [(2, AV.bool false)] [] 0 (by simp [h1, h1_, h1__, h2, h2_, h3, h3_, h4, h5, h6, h6_, h5_, h7, h7_]) (by simp [h1, h1_, h1__, h2, h2_, h3, h3_, h4, h5, h6, h6_, h5_, h7, h7_]) (by simp) ?_
            simp only [Option.some.injEq] at hF
            subst hF
            refine AW.ret (hQ _ _ _ ?_ (matchO_0 ?_)).1
            · simp [Try.f70, h1, h1_, h1__, h2, h2_, h3, h3_, h4, h5, h6, h6_, h5_, h7, h7_]
            · simp [h1, h1_, h1__, h2, h2_, h3, h3_, h4, h5, h6, h6_, h5_, h7, h7_]
          · replace hF := ite_f h7 hF
            have h7_ := h7
            try simp at h7_
            by_cases h8 : 64 ≤ v3
            · replace hF := ite_t h8 hF
              have h8_ := h8
              try simp at h8_
              try simp [h1, h1_, h1__, h2, h2_, h3, h3_, h4, h5, h6, h6_, h5_, h7, h7_, h8, h8_]
              repeat' apply And.intro
              any_goals (first | exact hG172 _ (by kernel_rfl) | refine hR172 _ _ _ ?_ | omega | (unfold maxLen; omega) | (simp [h1, h1_, h1__, h2, h2_, h3, h3_, h4, h5, h6, h6_, h5_, h7, h7_, h8, h8_]; done) | (simp [h1, h1_, h1__, h2, h2_, h3, h3_, h4, h5, h6, h6_, h5_, h7, h7_, h8, h8_]; omega))
              refine AW.wk [(0, AV.lst false false (List.map (AV.int .i64) v0)), (3, AV.int .i64 v2), (45, AV.bool true)] [] 0 (by simp [h1, h1_, h1__, h2, h2_, h3, h3_, h4, h5, h6, h6_, h5_, h7, h7_, h8, h8_]) (by simp [h1, h1_, h1__, h2, h2_, h3, h3_, h4, h5, h6, h6_, h5_, h7, h7_, h8, h8_]) (by simp) ?_
              refine AW.condT (by decide) (by simp [h1, h1_, h1__, h2, h2_, h3, h3_, h4, h5, h6, h6_, h5_, h7, h7_, h8, h8_]) ?_
              refine AW.seqR mixed [] [none] (by kernel_rfl) fun G174 R174 hG174 hR174 => ?_
              try simp [h1, h1_, h1__, h2, h2_, h3, h3_, h4, h5, h6, h6_, h5_, h7, h7_, h8, h8_]
              repeat' apply And.intro
              any_goals (first | exact hG174 _ (by kernel_rfl) | refine hR174 _ _ _ ?_ | omega | (unfold maxLen; omega) | (simp [h1, h1_, h1__, h2, h2_, h3, h3_, h4, h5, h6, h6_, h5_, h7, h7_, h8, h8_]; done) | (simp [h1, h1_, h1__, h2, h2_, h3, h3_, h4, h5, h6, h6_, h5_, h7, h7_, h8, h8_]; omega))
              refine AW.wk [(2, AV.bool false)] [] 0 (by simp [h1, h1_, h1__, h2, h2_, h3, h3_, h4, h5, h6, h6_, h5_, h7, h7_, h8, h8_]) (by simp [h1, h1_, h1__, h2, h2_, h3, h3_, h4, h5, h6, h6_, h5_, h7, h7_, h8, h8_]) (by simp) ?_
              simp only [Option.some.injEq] at hF
              subst hF
              refine AW.ret (hQ _ _ _ ?_ (matchO_0 ?_)).1
              · simp [Try.f70, h1, h1_, h1__, h2, h2_, h3, h3_, h4, h5, h6, h6_, h5_, h7, h7_, h8, h8_]
              · simp [h1, h1_, h1__, h2, h2_, h3, h3_, h4, h5, h6, h6_, h5_, h7, h7_, h8, h8_]
            · replace hF := ite_f h8 hF
              have h8_ := h8
              try simp at h8_
              by_cases h9 : 0 < v2
              · replace hF := ite_t h9 hF
                have h9_ := h9
                try simp at h9_
                obtain ⟨v4, h10, h11, h12, hF⟩ := idx_elim hF
                have h12_ := get_of h12
                try simp at h12_
                have h11_ := h11
                try simp at h11_
                try simp [h1, h1_, h1__, h2, h2_, h3, h3_, h4, h5, h6, h6_, h5_, h7, h7_, h8, h8_, h9, h9_, h10, h11, h12, h12_, h11_]
                repeat' apply And.intro
                any_goals (first | exact hG172 _ (by kernel_rfl) | refine hR172 _ _ _ ?_ | omega | (unfold maxLen; omega) | (simp [h1, h1_, h1__, h2, h2_, h3, h3_, h4, h5, h6, h6_, h5_, h7, h7_, h8, h8_, h9, h9_, h10, h11, h12, h12_, h11_]; done) | (simp [h1, h1_, h1__, h2, h2_, h3, h3_, h4, h5, h6, h6_, h5_, h7, h7_, h8, h8_, h9, h9_, h10, h11, h12, h12_, h11_]; omega))
                refine AW.wk [(0, AV.lst false false (List.map (AV.int .i64) v0)), (3, AV.int .i64 v2), (45, AV.bool (decide (v3 ≤ v4)))] [] 0 (by simp [h1, h1_, h1__, h2, h2_, h3, h3_, h4, h5, h6, h6_, h5_, h7, h7_, h8, h8_, h9, h9_, h10, h11, h12, h12_, h11_]) (by simp [h1, h1_, h1__, h2, h2_, h3, h3_, h4, h5, h6, h6_, h5_, h7, h7_, h8, h8_, h9, h9_, h10, h11, h12, h12_, h11_]) (by simp) ?_
                by_cases h13 : v3 ≤ v4
                · replace hF := ite_t h13 hF
                  have h13_ := h13
                  try simp at h13_
                  refine AW.condT (by decide) (by first | (simp [h1, h1_, h1__, h2, h2_, h3, h3_, h4, h5, h6, h6_, h5_, h7, h7_, h8, h8_, h9, h9_, h10, h11, h12, h12_, h11_, h13, h13_]; done) | (simp [h1, h1_, h1__, h2, h2_, h3, h3_, h4, h5, h6, h6_, h5_, h7, h7_, h8, h8_, h9, h9_, h10, h11, h12, h12_, h11_, h13, h13_]; omega)) ?_
                  refine AW.seqR mixed [] [none] (by kernel_rfl) fun G175 R175 hG175 hR175 => ?_
                  try simp [h1, h1_, h1__, h2, h2_, h3, h3_, h4, h5, h6, h6_, h5_, h7, h7_, h8, h8_, h9, h9_, h10, h11, h12, h12_, h11_, h13, h13_]
                  repeat' apply And.intro
                  any_goals (first | exact hG175 _ (by kernel_rfl) | refine hR175 _ _ _ ?_ | omega | (unfold maxLen; omega) | (simp [h1, h1_, h1__, h2, h2_, h3, h3_, h4, h5, h6, h6_, h5_, h7, h7_, h8, h8_, h9, h9_, h10, h11, h12, h12_, h11_, h13, h13_]; done) | (simp [h1, h1_, h1__, h2, h2_, h3, h3_, h4, h5, h6, h6_, h5_, h7, h7_, h8, h8_, h9, h9_, h10, h11, h12, h12_, h11_, h13, h13_]; omega))
                  refine AW.wk [(2, AV.bool false)] [] 0 (by simp [h1, h1_, h1__, h2, h2_, h3, h3_, h4, h5, h6, h6_, h5_, h7, h7_, h8, h8_, h9, h9_, h10, h11, h12, h12_, h11_, h13, h13_]) (by simp [h1, h1_, h1__, h2, h2_, h3, h3_, h4, h5, h6, h6_, h5_, h7, h7_, h8, h8_, h9, h9_, h10, h11, h12, h12_, h11_, h13, h13_]) (by simp) ?_
                  simp only [Option.some.injEq] at hF
                  subst hF
                  refine AW.ret (hQ _ _ _ ?_ (matchO_0 ?_)).1
                  · simp [Try.f70, h1, h1_, h1__, h2, h2_, h3, h3_, h4, h5, h6, h6_, h5_, h7, h7_, h8, h8_, h9, h9_, h10, h11, h12, h12_, h11_, h13, h13_]
                  · simp [h1, h1_, h1__, h2, h2_, h3, h3_, h4, h5, h6, h6_, h5_, h7, h7_, h8, h8_, h9, h9_, h10, h11, h12, h12_, h11_, h13, h13_]
                · replace hF := ite_f h13 hF
                  have h13_ := h13
                  try simp at h13_
                  refine AW.condF (by decide) (by first | (simp [h1, h1_, h1__, h2, h2_, h3, h3_, h4, h5, h6, h6_, h5_, h7, h7_, h8, h8_, h9, h9_, h10, h11, h12, h12_, h11_, h13, h13_]; done) | (simp [h1, h1_, h1__, h2, h2_, h3, h3_, h4, h5, h6, h6_, h5_, h7, h7_, h8, h8_, h9, h9_, h10, h11, h12, h12_, h11_, h13, h13_]; omega)) ?_
                  refine AW.skip ?_
                  refine hK171 _ _ _ ?_
                  exact Can.join (()) hF (by simp [h1, h1_, h1__, h2, h2_, h3, h3_, h4, h5, h6, h6_, h5_, h7, h7_, h8, h8_, h9, h9_, h10, h11, h12, h12_, h11_, h13, h13_]) (by simp [h1, h1_, h1__, h2, h2_, h3, h3_, h4, h5, h6, h6_, h5_, h7, h7_, h8, h8_, h9, h9_, h10, h11, h12, h12_, h11_, h13, h13_]) (by simp)
              · replace hF := ite_f h9 hF
                have h9_ := h9
                try simp at h9_
                try simp [h1, h1_, h1__, h2, h2_, h3, h3_, h4, h5, h6, h6_, h5_, h7, h7_, h8, h8_, h9, h9_]
                repeat' apply And.intro
                any_goals (first | exact hG172 _ (by kernel_rfl) | refine hR172 _ _ _ ?_ | omega | (unfold maxLen; omega) | (simp [h1, h1_, h1__, h2, h2_, h3, h3_, h4, h5, h6, h6_, h5_, h7, h7_, h8, h8_, h9, h9_]; done) | (simp [h1, h1_, h1__, h2, h2_, h3, h3_, h4, h5, h6, h6_, h5_, h7, h7_, h8, h8_, h9, h9_]; omega))
                refine AW.wk [(0, AV.lst false false (List.map (AV.int .i64) v0)), (3, AV.int .i64 v2), (45, AV.bool false)] [] 0 (by simp [h1, h1_, h1__, h2, h2_, h3, h3_, h4, h5, h6, h6_, h5_, h7, h7_, h8, h8_, h9, h9_]) (by simp [h1, h1_, h1__, h2, h2_, h3, h3_, h4, h5, h6, h6_, h5_, h7, h7_, h8, h8_, h9, h9_]) (by simp) ?_
                refine AW.condF (by decide) (by simp [h1, h1_, h1__, h2, h2_, h3, h3_, h4, h5, h6, h6_, h5_, h7, h7_, h8, h8_, h9, h9_]) ?_
                refine AW.skip ?_
                refine hK171 _ _ _ ?_
                exact Can.join (()) hF (by simp [h1, h1_, h1__, h2, h2_, h3, h3_, h4, h5, h6, h6_, h5_, h7, h7_, h8, h8_, h9, h9_]) (by simp [h1, h1_, h1__, h2, h2_, h3, h3_, h4, h5, h6, h6_, h5_, h7, h7_, h8, h8_, h9, h9_]) (by simp)
        · rintro ⟨⟩ hF
          try dsimp only at hF
          unfold ref24_Valid.J2 at hF
          refine AW.region mixed [] [none, none, none] (by kernel_rfl) fun G170 R170 hG170 hR170 => ?_
          try simp [h1, h1_, h1__, h2, h2_, h3, h3_]
          repeat' apply And.intro
          any_goals (first | exact hG170 _ (by kernel_rfl) | refine hR170 _ _ _ ?_ | omega | (unfold maxLen; omega) | (simp [h1, h1_, h1__, h2, h2_, h3, h3_]; done) | (simp [h1, h1_, h1__, h2, h2_, h3, h3_]; omega))
          refine hK162 _ _ _ ?_
          refine Can.weak [(0, AV.lst false false (List.map (AV.int .i64) v0)), (3, AV.int .i64 (IntKind.wrap .i64 (v2 + 1)))] [] 0 (by simp [h1, h1_, h1__, h2, h2_, h3, h3_]) (by simp [h1, h1_, h1__, h2, h2_, h3, h3_]) (by simp) ?_
          exact Can.next (k' := n1) (IntKind.wrap .i64 (v2 + 1)) (by omega) hF (by simp [h1, h1_, h1__, h2, h2_, h3, h3_]) (by simp [h1, h1_, h1__, h2, h2_, h3, h3_]) (by simp)
      · replace hF := ite_f h3 hF
        have h3_ := h3
        try simp at h3_
        refine AW.condF (by decide) (by first | (simp [h1, h1_, h1__, h2, h2_, h3, h3_]; done) | (simp [h1, h1_, h1__, h2, h2_, h3, h3_]; omega)) ?_
        refine AW.exit ?_
        try simp
        refine hK136 _ _ _ ?_
        refine AW.seqR mixed [] [none] (by kernel_rfl) fun G176 R176 hG176 hR176 => ?_
        try simp [h1, h1_, h1__, h2, h2_, h3, h3_]
        repeat' apply And.intro
        any_goals (first | exact hG176 _ (by kernel_rfl) | refine hR176 _ _ _ ?_ | omega | (unfold maxLen; omega) | (simp [h1, h1_, h1__, h2, h2_, h3, h3_]; done) | (simp [h1, h1_, h1__, h2, h2_, h3, h3_]; omega))
        refine AW.wk [(2, AV.bool true)] [] 0 (by simp [h1, h1_, h1__, h2, h2_, h3, h3_]) (by simp [h1, h1_, h1__, h2, h2_, h3, h3_]) (by simp) ?_
        simp only [Option.some.injEq] at hF
        subst hF
        refine AW.ret (hQ _ _ _ ?_ (matchO_0 ?_)).1
        · simp [Try.f70, h1, h1_, h1__, h2, h2_, h3, h3_]
        · simp [h1, h1_, h1__, h2, h2_, h3, h3_]
set_option maxHeartbeats 4000000 in
theorem w_ref34_Valid (k : Nat) (v0 : Int) (v1 : Int) (v2 : (List Int)) (v3 : Bool) (hF : ref34_Valid k v0 v1 v2 = some v3) :
    FCall Try.prog 42 [AV.agg [AV.int .i64 v0, AV.int .i64 v1, AV.lst false false (List.map (AV.int .i64) v2)]] [] (AV.bool v3) [] := by
  unfold ref34_Valid at hF
  refine FCall.enter Try.func42 rfl (by simp) (by decide) (by simp) (by simp) (by simp) (by simp) (by simp) ?_
  intro c0 w0 Q h0 hQ
  refine AW.wk [(0, AV.agg [AV.int .i64 v0, AV.int .i64 v1, AV.lst false false (List.map (AV.int .i64) v2)])] [] 0 (by simp) (by simp) (by simp) ?_
  refine AW.seqR mixed [] [none, none] (by kernel_rfl) fun G3 R3 hG3 hR3 => ?_
  try simp
  repeat' apply And.intro
  any_goals (first | exact hG3 _ (by kernel_rfl) | refine hR3 _ _ _ ?_ | omega | (unfold maxLen; omega) | (simp; done) | (simp; omega))
  refine AW.wk [(1, AV.ptr 0 0)] [(0, .cells [AV.int .i64 v0, AV.int .i64 v1, AV.lst false false (List.map (AV.int .i64) v2)])] 1 (by simp) (by simp) (by simp) ?_
  refine AW.seqR mixed [] [none, none, none, none, some (6, true), some (6, true), some (6, true), none, none, some (11, true), some (11, true), some (11, true), some (11, true), none, none, some (17, true), some (17, true), some (17, true), none, none, some (22, true), some (22, true), some (22, true), some (22, true), some (22, true), some (22, true), none, none, some (30, true), some (30, true), some (30, true), none, none, some (35, true), some (35, true), some (35, true), some (35, true), some (35, true), some (35, true), none, none] (by kernel_rfl) fun G4 R4 hG4 hR4 => ?_
  by_cases h1 : 0 ≤ v0
  · replace hF := ite_t h1 hF
    have h1_ := h1
    try simp at h1_
    by_cases h2 : v0 < 64
    · replace hF := ite_t h2 hF
      have h2_ := h2
      try simp at h2_
      by_cases h3 : (v2.length : Int) ≤ 12
      · replace hF := ite_t h3 hF
        have h3_ := h3
        try simp at h3_
        try simp [h1, h1_, h2, h2_, h3, h3_]
        repeat' apply And.intro
        try any_goals (first | omega | (unfold maxLen; omega) | (simp [h1, h1_, h2, h2_, h3, h3_]; done))
        obtain ⟨v4, h4, hF⟩ := bnd1_elim hF
        refine aCall_l (w_ref24_Valid k _ _ h4) (by simp) [] [] [] rfl (.cons (.same (by simp [h1, h1_, h2, h2_, h3, h3_])) .nil) (by simp [h1, h1_, h2, h2_, h3, h3_]) (by decide) (by simp) (by simp) (.inl rfl) (by simp) (by simp) ?_
        by_cases h5 : v4 = true
        · replace hF := ite_t h5 hF
          have h5_ := h5
          try simp at h5_
          try simp [h1, h1_, h2, h2_, h3, h3_, h5, h5_]
          repeat' apply And.intro
          try any_goals (first | omega | (unfold maxLen; omega) | (simp [h1, h1_, h2, h2_, h3, h3_, h5, h5_]; done))
          obtain ⟨v5, h6, hF⟩ := bnd1_elim hF
          refine aCall_l (w_ref24_Has k _ _ _ h6) (by simp) [] [] [] rfl (.cons (.same (by simp [h1, h1_, h2, h2_, h3, h3_, h5, h5_])) (.cons (.same (by simp [h1, h1_, h2, h2_, h3, h3_, h5, h5_])) .nil)) (by simp [h1, h1_, h2, h2_, h3, h3_, h5, h5_]) (by decide) (by simp) (by simp) (.inl rfl) (by simp) (by simp) ?_
          by_cases h7 : (!v5) = true
          · replace hF := ite_t h7 hF
            have h7_ := h7
            try simp at h7_
            by_cases h8 : 1 ≤ v1
            · replace hF := ite_t h8 hF
              have h8_ := h8
              try simp at h8_
              try simp [h1, h1_, h2, h2_, h3, h3_, h5, h5_, h7, h7_, h8, h8_]
              repeat' apply And.intro
              any_goals (first | exact hG4 _ (by kernel_rfl) | refine hR4 _ _ _ ?_ | omega | (unfold maxLen; omega) | (simp [h1, h1_, h2, h2_, h3, h3_, h5, h5_, h7, h7_, h8, h8_]; done) | (simp [h1, h1_, h2, h2_, h3, h3_, h5, h5_, h7, h7_, h8, h8_]; omega))
              refine AW.wk [(2, AV.bool (decide (v1 ≤ (v2.length : Int))))] [] 1 (by simp [h1, h1_, h2, h2_, h3, h3_, h5, h5_, h7, h7_, h8, h8_]) (by simp [h1, h1_, h2, h2_, h3, h3_, h5, h5_, h7, h7_, h8, h8_]) (by simp) ?_
              simp only [Option.some.injEq] at hF
              subst hF
              refine AW.ret (hQ _ _ _ ?_ (matchO_0 ?_)).1
              · simp [Try.f42, h1, h1_, h2, h2_, h3, h3_, h5, h5_, h7, h7_, h8, h8_]
              · simp [h1, h1_, h2, h2_, h3, h3_, h5, h5_, h7, h7_, h8, h8_]
            · replace hF := ite_f h8 hF
              have h8_ := h8
              try simp at h8_
              try simp [h1, h1_, h2, h2_, h3, h3_, h5, h5_, h7, h7_, h8, h8_]
              repeat' apply And.intro
              any_goals (first | exact hG4 _ (by kernel_rfl) | refine hR4 _ _ _ ?_ | omega | (unfold maxLen; omega) | (simp [h1, h1_, h2, h2_, h3, h3_, h5, h5_, h7, h7_, h8, h8_]; done) | (simp [h1, h1_, h2, h2_, h3, h3_, h5, h5_, h7, h7_, h8, h8_]; omega))
              refine AW.wk [(2, AV.bool false)] [] 1 (by simp [h1, h1_, h2, h2_, h3, h3_, h5, h5_, h7, h7_, h8, h8_]) (by simp [h1, h1_, h2, h2_, h3, h3_, h5, h5_, h7, h7_, h8, h8_]) (by simp) ?_
              simp only [Option.some.injEq] at hF
              subst hF
              refine AW.ret (hQ _ _ _ ?_ (matchO_0 ?_)).1
              · simp [Try.f42, h1, h1_, h2, h2_, h3, h3_, h5, h5_, h7, h7_, h8, h8_]
              · simp [h1, h1_, h2, h2_, h3, h3_, h5, h5_, h7, h7_, h8, h8_]
          · replace hF := ite_f h7 hF
            have h7_ := h7
            try simp at h7_
            try simp [h1, h1_, h2, h2_, h3, h3_, h5, h5_, h7, h7_]
            repeat' apply And.intro
            any_goals (first | exact hG4 _ (by kernel_rfl) | refine hR4 _ _ _ ?_ | omega | (unfold maxLen; omega) | (simp [h1, h1_, h2, h2_, h3, h3_, h5, h5_, h7, h7_]; done) | (simp [h1, h1_, h2, h2_, h3, h3_, h5, h5_, h7, h7_]; omega))
            refine AW.wk [(2, AV.bool false)] [] 1 (by simp [h1, h1_, h2, h2_, h3, h3_, h5, h5_, h7, h7_]) (by simp [h1, h1_, h2, h2_, h3, h3_, h5, h5_, h7, h7_]) (by simp) ?_
            simp only [Option.some.injEq] at hF
            subst hF
            refine AW.ret (hQ _ _ _ ?_ (matchO_0 ?_)).1
            · simp [Try.f42, h1, h1_, h2, h2_, h3, h3_, h5, h5_, h7, h7_]
            · simp [h1, h1_, h2, h2_, h3, h3_, h5, h5_, h7, h7_]
        · replace hF := ite_f h5 hF
          have h5_ := h5
          try simp at h5_
          try simp [h1, h1_, h2, h2_, h3, h3_, h5, h5_]
          repeat' apply And.intro
          any_goals (first | exact hG4 _ (by kernel_rfl) | refine hR4 _ _ _ ?_ | omega | (unfold maxLen; omega) | (simp [h1, h1_, h2, h2_, h3, h3_, h5, h5_]; done) | (simp [h1, h1_, h2, h2_, h3, h3_, h5, h5_]; omega))
          refine AW.wk [(2, AV.bool false)] [] 1 (by simp [h1, h1_, h2, h2_, h3, h3_, h5, h5_]) (by simp [h1, h1_, h2, h2_, h3, h3_, h5, h5_]) (by simp) ?_
          simp only [Option.some.injEq] at hF
          subst hF
          refine AW.ret (hQ _ _ _ ?_ (matchO_0 ?_)).1
          · simp [Try.f42, h1, h1_, h2, h2_, h3, h3_, h5, h5_]
          · simp [h1, h1_, h2, h2_, h3, h3_, h5, h5_]
      · replace hF := ite_f h3 hF
        have h3_ := h3
        try simp at h3_
        try simp [h1, h1_, h2, h2_, h3, h3_]
        repeat' apply And.intro
        any_goals (first | exact hG4 _ (by kernel_rfl) | refine hR4 _ _ _ ?_ | omega | (unfold maxLen; omega) | (simp [h1, h1_, h2, h2_, h3, h3_]; done) | (simp [h1, h1_, h2, h2_, h3, h3_]; omega))
        refine AW.wk [(2, AV.bool false)] [] 1 (by simp [h1, h1_, h2, h2_, h3, h3_]) (by simp [h1, h1_, h2, h2_, h3, h3_]) (by simp) ?_
        simp only [Option.some.injEq] at hF
        subst hF
        refine AW.ret (hQ _ _ _ ?_ (matchO_0 ?_)).1
        · simp [Try.f42, h1, h1_, h2, h2_, h3, h3_]
        · simp [h1, h1_, h2, h2_, h3, h3_]
    · replace hF := ite_f h2 hF
      have h2_ := h2
      try simp at h2_
      try simp [h1, h1_, h2, h2_]
      repeat' apply And.intro
      any_goals (first | exact hG4 _ (by kernel_rfl) | refine hR4 _ _ _ ?_ | omega | (unfold maxLen; omega) | (simp [h1, h1_, h2, h2_]; done) | (simp [h1, h1_, h2, h2_]; omega))
      refine AW.wk [(2, AV.bool false)] [] 1 (by simp [h1, h1_, h2, h2_]) (by simp [h1, h1_, h2, h2_]) (by simp) ?_
      simp only [Option.some.injEq] at hF
      subst hF
      refine AW.ret (hQ _ _ _ ?_ (matchO_0 ?_)).1
      · simp [Try.f42, h1, h1_, h2, h2_]
      · simp [h1, h1_, h2, h2_]
  · replace hF := ite_f h1 hF
    have h1_ := h1
    try simp at h1_
    try simp [h1, h1_]
    repeat' apply And.intro
    any_goals (first | exact hG4 _ (by kernel_rfl) | refine hR4 _ _ _ ?_ | omega | (unfold maxLen; omega) | (simp [h1, h1_]; done) | (simp [h1, h1_]; omega))
    refine AW.wk [(2, AV.bool false)] [] 1 (by simp [h1, h1_]) (by simp [h1, h1_]) (by simp) ?_
    simp only [Option.some.injEq] at hF
    subst hF
    refine AW.ret (hQ _ _ _ ?_ (matchO_0 ?_)).1
    · simp [Try.f42, h1, h1_]
    · simp [h1, h1_]
set_option maxHeartbeats 4000000 in
theorem w_ref34_Draft (k : Nat) (v0 : Int) (v1 : Int) (v2 : (List Int)) (v3 : Int) (v4 : Int) (v5 : Int) (v6 : Int) (v7 : (List Int)) (v8 : (List api_Pin)) (v9 : Int) (hF : ref34_Draft k v0 v1 v2 = some (v3, v4, v5, v6, v7, v8, v9)) :
    FCall Try.prog 40 [AV.agg [AV.int .i64 v0, AV.int .i64 v1, AV.lst false false (List.map (AV.int .i64) v2)]] [] (AV.tup [AV.agg [AV.int .i64 v3, AV.int .i64 v4, AV.int .i64 v5, AV.int .i64 v6, AV.lst false false (List.map (AV.int .i64) v7), AV.lst false false (List.map api_Pin.av v8)], AV.int .i64 v9]) [] := by
  unfold ref34_Draft at hF
  refine FCall.enter Try.func40 rfl (by simp) (by decide) (by simp) (by simp) (by simp) (by simp) (by simp) ?_
  intro c0 w0 Q h0 hQ
  refine AW.wk [(0, AV.agg [AV.int .i64 v0, AV.int .i64 v1, AV.lst false false (List.map (AV.int .i64) v2)])] [] 0 (by simp) (by simp) (by simp) ?_
  refine AW.seqR mixed [] [none, none, none] (by kernel_rfl) fun G8 R8 hG8 hR8 => ?_
  try simp
  repeat' apply And.intro
  any_goals (first | exact hG8 _ (by kernel_rfl) | refine hR8 _ _ _ ?_ | omega | (unfold maxLen; omega) | (simp; done) | (simp; omega))
  refine AW.wk [(1, AV.ptr 0 0), (2, AV.ptr 1 0)] [(0, .cells [AV.int .i64 v0, AV.int .i64 v1, AV.lst false false (List.map (AV.int .i64) v2)]), (1, .cells [AV.int .i64 0, AV.int .i64 0, AV.int .i64 0, AV.int .i64 0, AV.lst true true (List.map (AV.int .i64) ([] : List Int)), AV.lst true true (List.map api_Pin.av ([] : List api_Pin))])] 2 (by simp) (by simp) (by simp) ?_
  refine AW.seq fun K11 hK11 => ?_
  refine AW.seqR mixed [] [none, none, none] (by kernel_rfl) fun G12 R12 hG12 hR12 => ?_
  try simp
  repeat' apply And.intro
  try any_goals (first | omega | (unfold maxLen; omega) | (simp; done))
  obtain ⟨v10, h1, hF⟩ := bnd1_elim hF
  refine aCall_l (w_ref34_Valid k _ _ _ _ h1) (by simp) [] [] [] rfl (.cons (.same (by simp)) .nil) (by simp) (by decide) (by simp) (by simp) (.inl rfl) (by simp) (by simp) ?_
  try simp
  repeat' apply And.intro
  any_goals (first | exact hG12 _ (by kernel_rfl) | refine hR12 _ _ _ ?_ | omega | (unfold maxLen; omega) | (simp; done) | (simp; omega))
  refine AW.wk [(1, AV.ptr 0 0), (2, AV.ptr 1 0), (6, AV.bool (!v10))] [(0, .cells [AV.int .i64 v0, AV.int .i64 v1, AV.lst false false (List.map (AV.int .i64) v2)]), (1, .cells [AV.int .i64 0, AV.int .i64 0, AV.int .i64 0, AV.int .i64 0, AV.lst true true (List.map (AV.int .i64) ([] : List Int)), AV.lst true true (List.map api_Pin.av ([] : List api_Pin))])] 2 (by simp) (by simp) (by simp) ?_
  by_cases h2 : (!v10) = true
  · replace hF := ite_t h2 hF
    have h2_ := h2
    try simp at h2_
    refine AW.condT (by decide) (by first | (simp [h2, h2_]; done) | (simp [h2, h2_]; omega)) ?_
    refine AW.seqR mixed [] [none, none, none] (by kernel_rfl) fun G13 R13 hG13 hR13 => ?_
    try simp [h2, h2_]
    repeat' apply And.intro
    any_goals (first | exact hG13 _ (by kernel_rfl) | refine hR13 _ _ _ ?_ | omega | (unfold maxLen; omega) | (simp [h2, h2_]; done) | (simp [h2, h2_]; omega))
    refine AW.wk [(2, AV.ptr 1 0), (3, AV.int .i64 47)] [(1, .cells [AV.int .i64 0, AV.int .i64 0, AV.int .i64 0, AV.int .i64 0, AV.lst true true (List.map (AV.int .i64) ([] : List Int)), AV.lst true true (List.map api_Pin.av ([] : List api_Pin))])] 2 (by simp [h2, h2_]) (by simp [h2, h2_]) (by simp) ?_
    refine AW.rnm (m := 0) h0 [(0, 1)] [(2, AV.ptr 0 0), (3, AV.int .i64 47)] [(0, .cells [AV.int .i64 0, AV.int .i64 0, AV.int .i64 0, AV.int .i64 0, AV.lst true true (List.map (AV.int .i64) ([] : List Int)), AV.lst true true (List.map api_Pin.av ([] : List api_Pin))])] 1 (by decide) (by decide) (by decide) rfl (by simp [h2, h2_]) (by simp [h2, h2_]) ?_
    refine AW.flg [] [(0, .cells [AV.int .i64 0, AV.int .i64 0, AV.int .i64 0, AV.int .i64 0, AV.lst false false (List.map (AV.int .i64) ([] : List Int)), AV.lst false false (List.map api_Pin.av ([] : List api_Pin))])] trivial ⟨⟨AObj.cells [AV.int .i64 0, AV.int .i64 0, AV.int .i64 0, AV.int .i64 0, AV.lst true true (List.map (AV.int .i64) ([] : List Int)), AV.lst true true (List.map api_Pin.av ([] : List api_Pin))], by simp [h2, h2_], (.mk (.cons (.same _) (.cons (.same _) (.cons (.same _) (.cons (.same _) (.cons (.lst (by simp)) (.cons (.lst (by simp)) .nil)))))))⟩, trivial⟩ (by simp) ?_
    simp only [Option.some.injEq, Prod.mk.injEq] at hF
    obtain ⟨e0, e1, e2, e3, e4, e5, e6⟩ := hF
    subst e0 e1 e2 e3 e4 e5 e6
    refine AW.ret (hQ _ _ _ ?_ (matchO_0 ?_)).1
    · simp [Try.f40, h2, h2_]
    · simp [h2, h2_]
  · replace hF := ite_f h2 hF
    have h2_ := h2
    try simp at h2_
    refine AW.condF (by decide) (by first | (simp [h2, h2_]; done) | (simp [h2, h2_]; omega)) ?_
    refine AW.skip ?_
    refine hK11 _ _ _ ?_
    refine AW.seqR mixed [13] [none, none, none, none, none, none, none, none, none] (by kernel_rfl) fun G14 R14 hG14 hR14 => ?_
    obtain ⟨h3, hF⟩ := chk_elim hF
    have h3_ := h3
    try simp at h3_
    try simp [h2, h2_, h3]
    repeat' apply And.intro
    any_goals (first | exact hG14 _ (by kernel_rfl) | refine hR14 _ _ _ ?_ | omega | (unfold maxLen; omega) | (simp [h2, h2_, h3]; done) | (simp [h2, h2_, h3]; omega))
    refine AW.wk [(2, AV.ptr 1 0), (3, AV.int .i64 0)] [(1, .cells [AV.int .i64 12, AV.int .i64 v1, AV.int .i64 0, AV.int .i64 0, AV.slc 2 0 1 v2.length false, AV.lst true true (List.map api_Pin.av ([] : List api_Pin))]), (2, .grow (List.map (AV.int .i64) v2))] 3 (by simp [h2, h2_, h3]) (by simp [h2, h2_, h3]) (by simp) ?_
    refine AW.frz 2 (o := .grow (List.map (AV.int .i64) v2)) (by simp [h2, h2_, h3]) rfl [] [(1, .cells [AV.int .i64 12, AV.int .i64 v1, AV.int .i64 0, AV.int .i64 0, AV.lst false false (List.map (AV.int .i64) v2), AV.lst true true (List.map api_Pin.av ([] : List api_Pin))])] trivial ⟨⟨by simp, AObj.cells [AV.int .i64 12, AV.int .i64 v1, AV.int .i64 0, AV.int .i64 0, AV.slc 2 0 1 v2.length false, AV.lst true true (List.map api_Pin.av ([] : List api_Pin))], by simp [h2, h2_, h3], (.mk (.cons (.same _) (.cons (.same _) (.cons (.same _) (.cons (.same _) (.cons (.l (by simp) (by simp) (by simp) (by simp)) (.cons (.same _) .nil)))))))⟩, trivial⟩ ?_
    refine AW.wk [(2, AV.ptr 1 0), (3, AV.int .i64 0)] [(1, .cells [AV.int .i64 12, AV.int .i64 v1, AV.int .i64 0, AV.int .i64 0, AV.lst false false (List.map (AV.int .i64) v2), AV.lst true true (List.map api_Pin.av ([] : List api_Pin))])] 3 (by simp [h2, h2_, h3]) (by simp [h2, h2_, h3]) (by simp) ?_
    refine AW.rnm (m := 0) h0 [(0, 1)] [(2, AV.ptr 0 0), (3, AV.int .i64 0)] [(0, .cells [AV.int .i64 12, AV.int .i64 v1, AV.int .i64 0, AV.int .i64 0, AV.lst false false (List.map (AV.int .i64) v2), AV.lst true true (List.map api_Pin.av ([] : List api_Pin))])] 1 (by decide) (by decide) (by decide) rfl (by simp [h2, h2_, h3]) (by simp [h2, h2_, h3]) ?_
    refine AW.flg [] [(0, .cells [AV.int .i64 12, AV.int .i64 v1, AV.int .i64 0, AV.int .i64 0, AV.lst false false (List.map (AV.int .i64) v2), AV.lst false false (List.map api_Pin.av ([] : List api_Pin))])] trivial ⟨⟨AObj.cells [AV.int .i64 12, AV.int .i64 v1, AV.int .i64 0, AV.int .i64 0, AV.lst false false (List.map (AV.int .i64) v2), AV.lst true true (List.map api_Pin.av ([] : List api_Pin))], by simp [h2, h2_, h3], (.mk (.cons (.same _) (.cons (.same _) (.cons (.same _) (.cons (.same _) (.cons (.same _) (.cons (.lst (by simp)) .nil)))))))⟩, trivial⟩ (by simp) ?_
    simp only [Option.some.injEq, Prod.mk.injEq] at hF
    obtain ⟨e0, e1, e2, e3, e4, e5, e6⟩ := hF
    subst e0 e1 e2 e3 e4 e5 e6
    refine AW.ret (hQ _ _ _ ?_ (matchO_0 ?_)).1
    · simp [Try.f40, h2, h2_, h3]
    · simp [h2, h2_, h3]
end Go.TF
