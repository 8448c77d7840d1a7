/- Walks: the Go text computes the Lean functions (printed by a program of our own). -/
import Derived.Test.YtocmgnljgemjkaaPu
import Derived.Test.YtocmgnljgemjkaaAbsT
import Derived.Test.YtocmgnljgemjkaaWa0
set_option linter.unusedVariables false
set_option linter.unusedSimpArgs false
set_option maxRecDepth 100000
namespace Go.TF
open Go Go.Abs Go.Proofs Go.Proofs.YtocmgnljgemjkaaT
set_option maxHeartbeats 4000000 in
theorem w_ref23_cmp (k : Nat) (v0 : Int) (v1 : Int) (v2 : Int) (hF : ref23_cmp k v0 v1 = some v2) :
    FCall Try.prog 96 [AV.int .i64 v0, AV.int .i64 v1] [] (AV.int .i64 v2) [] := by
  unfold ref23_cmp at hF
  refine FCall.enter Try.func96 rfl (by simp) (by decide) (by simp) (by simp) (by simp) (by simp) (by simp) ?_
  intro c0 w0 Q h0 hQ
  refine AW.wk [(0, AV.int .i64 v0), (1, AV.int .i64 v1)] [] 0 (by simp) (by simp) (by simp) ?_
  refine AW.seqR mixed [] [none] (by kernel_rfl) fun G13 R13 hG13 hR13 => ?_
  try simp
  repeat' apply And.intro
  any_goals (first | exact hG13 _ (by kernel_rfl) | refine hR13 _ _ _ ?_ | omega | (unfold maxLen; omega) | (simp; done) | (simp; omega))
  refine AW.wk [(0, AV.int .i64 v0), (1, AV.int .i64 v1)] [] 0 (by simp) (by simp) (by simp) ?_
  refine AW.seq fun K16 hK16 => ?_
  refine AW.seqR mixed [] [none, none, none] (by kernel_rfl) fun G17 R17 hG17 hR17 => ?_
  try simp
  repeat' apply And.intro
  any_goals (first | exact hG17 _ (by kernel_rfl) | refine hR17 _ _ _ ?_ | omega | (unfold maxLen; omega) | (simp; done) | (simp; omega))
  refine AW.wk [(0, AV.int .i64 v0), (1, AV.int .i64 v1), (7, AV.bool (decide (v0 < v1)))] [] 0 (by simp) (by simp) (by simp) ?_
  by_cases h1 : v0 < v1
  · replace hF := ite_t h1 hF
    have h1_ := h1
    try simp at h1_
    refine AW.condT (by decide) (by first | (simp [h1, h1_]; done) | (simp [h1, h1_]; omega)) ?_
    refine AW.seqR mixed [] [none] (by kernel_rfl) fun G18 R18 hG18 hR18 => ?_
    try simp [h1, h1_]
    repeat' apply And.intro
    any_goals (first | exact hG18 _ (by kernel_rfl) | refine hR18 _ _ _ ?_ | omega | (unfold maxLen; omega) | (simp [h1, h1_]; done) | (simp [h1, h1_]; omega))
    refine AW.wk [(4, AV.int .i64 (-1))] [] 0 (by simp [h1, h1_]) (by simp [h1, h1_]) (by simp) ?_
    simp only [Option.some.injEq] at hF
    subst hF
    refine AW.ret (hQ _ _ _ ?_ (matchO_0 ?_)).1
    · simp [Try.f96, h1, h1_]
    · simp [h1, h1_]
  · replace hF := ite_f h1 hF
    have h1_ := h1
    try simp at h1_
    refine AW.condF (by decide) (by first | (simp [h1, h1_]; done) | (simp [h1, h1_]; omega)) ?_
    refine AW.skip ?_
    refine hK16 _ _ _ ?_
    refine AW.seq fun K21 hK21 => ?_
    refine AW.seqR mixed [] [none, none, none] (by kernel_rfl) fun G22 R22 hG22 hR22 => ?_
    try simp [h1, h1_]
    repeat' apply And.intro
    any_goals (first | exact hG22 _ (by kernel_rfl) | refine hR22 _ _ _ ?_ | omega | (unfold maxLen; omega) | (simp [h1, h1_]; done) | (simp [h1, h1_]; omega))
    refine AW.wk [(10, AV.bool (decide (v1 < v0)))] [] 0 (by simp [h1, h1_]) (by simp [h1, h1_]) (by simp) ?_
    by_cases h2 : v1 < v0
    · replace hF := ite_t h2 hF
      have h2_ := h2
      try simp at h2_
      refine AW.condT (by decide) (by first | (simp [h1, h1_, h2, h2_]; done) | (simp [h1, h1_, h2, h2_]; omega)) ?_
      refine AW.seqR mixed [] [none] (by kernel_rfl) fun G23 R23 hG23 hR23 => ?_
      try simp [h1, h1_, h2, h2_]
      repeat' apply And.intro
      any_goals (first | exact hG23 _ (by kernel_rfl) | refine hR23 _ _ _ ?_ | omega | (unfold maxLen; omega) | (simp [h1, h1_, h2, h2_]; done) | (simp [h1, h1_, h2, h2_]; omega))
      refine AW.wk [(4, AV.int .i64 1)] [] 0 (by simp [h1, h1_, h2, h2_]) (by simp [h1, h1_, h2, h2_]) (by simp) ?_
      simp only [Option.some.injEq] at hF
      subst hF
      refine AW.ret (hQ _ _ _ ?_ (matchO_0 ?_)).1
      · simp [Try.f96, h1, h1_, h2, h2_]
      · simp [h1, h1_, h2, h2_]
    · replace hF := ite_f h2 hF
      have h2_ := h2
      try simp at h2_
      refine AW.condF (by decide) (by first | (simp [h1, h1_, h2, h2_]; done) | (simp [h1, h1_, h2, h2_]; omega)) ?_
      refine AW.skip ?_
      refine hK21 _ _ _ ?_
      refine AW.seqR mixed [] [none] (by kernel_rfl) fun G24 R24 hG24 hR24 => ?_
      try simp [h1, h1_, h2, h2_]
      repeat' apply And.intro
      any_goals (first | exact hG24 _ (by kernel_rfl) | refine hR24 _ _ _ ?_ | omega | (unfold maxLen; omega) | (simp [h1, h1_, h2, h2_]; done) | (simp [h1, h1_, h2, h2_]; omega))
      refine AW.wk [(4, AV.int .i64 0)] [] 0 (by simp [h1, h1_, h2, h2_]) (by simp [h1, h1_, h2, h2_]) (by simp) ?_
      simp only [Option.some.injEq] at hF
      subst hF
      refine AW.ret (hQ _ _ _ ?_ (matchO_0 ?_)).1
      · simp [Try.f96, h1, h1_, h2, h2_]
      · simp [h1, h1_, h2, h2_]
set_option maxHeartbeats 4000000 in
theorem w_ref23_Order (k : Nat) (v0 : (List Int)) (v1 : (List api_Pin)) (v2 : (List Int)) (v3 : (List api_Pin)) (v4 : Int) (hF : ref23_Order k v0 v1 v2 v3 = some v4) :
    FCall Try.prog 78 [AV.agg [AV.lst false false (List.map (AV.int .i64) v0), AV.lst false false (List.map api_Pin.av v1)], AV.agg [AV.lst false false (List.map (AV.int .i64) v2), AV.lst false false (List.map api_Pin.av v3)]] [] (AV.int .i64 v4) [] := by
  unfold ref23_Order at hF
  refine FCall.enter Try.func78 rfl (by simp) (by decide) (by simp) (by simp) (by simp) (by simp) (by simp) ?_
  intro c0 w0 Q h0 hQ
  refine AW.wk [(0, AV.agg [AV.lst false false (List.map (AV.int .i64) v0), AV.lst false false (List.map api_Pin.av v1)]), (1, AV.agg [AV.lst false false (List.map (AV.int .i64) v2), AV.lst false false (List.map api_Pin.av v3)])] [] 0 (by simp) (by simp) (by simp) ?_
  refine AW.seqR mixed [] [none, none, none] (by kernel_rfl) fun G380 R380 hG380 hR380 => ?_
  try simp
  repeat' apply And.intro
  any_goals (first | exact hG380 _ (by kernel_rfl) | refine hR380 _ _ _ ?_ | omega | (unfold maxLen; omega) | (simp; done) | (simp; omega))
  refine AW.wk [(2, AV.ptr 0 0), (3, AV.ptr 1 0)] [(0, .cells [AV.lst false false (List.map (AV.int .i64) v0), AV.lst false false (List.map api_Pin.av v1)]), (1, .cells [AV.lst false false (List.map (AV.int .i64) v2), AV.lst false false (List.map api_Pin.av v3)])] 2 (by simp) (by simp) (by simp) ?_
  refine AW.midF (α := Unit) (fun _ => ref23_Order.J1 k v0 v1 v2 v3 = some v4) (fun _ => [(2, AV.ptr 0 0), (3, AV.ptr 1 0)]) (fun _ => [(0, .cells [AV.lst false false (List.map (AV.int .i64) v0), AV.lst false false (List.map api_Pin.av v1)]), (1, .cells [AV.lst false false (List.map (AV.int .i64) v2), AV.lst false false (List.map api_Pin.av v3)])]) 2 (fun K723 hK723 => ?_) ?_
  · refine AW.seqR mixed [] [none] (by kernel_rfl) fun G724 R724 hG724 hR724 => ?_
    try simp
    repeat' apply And.intro
    any_goals (first | exact hG724 _ (by kernel_rfl) | refine hR724 _ _ _ ?_ | omega | (unfold maxLen; omega) | (simp; done) | (simp; omega))
    refine AW.wk [(2, AV.ptr 0 0), (3, AV.ptr 1 0), (5, AV.int .i64 0)] [(0, .cells [AV.lst false false (List.map (AV.int .i64) v0), AV.lst false false (List.map api_Pin.av v1)]), (1, .cells [AV.lst false false (List.map (AV.int .i64) v2), AV.lst false false (List.map api_Pin.av v3)])] 2 (by simp) (by simp) (by simp) ?_
    refine AW.block ?_
    refine AW.loopF (α := Int) (fun n v12 => ref23_Order.L4 k v0 v1 v2 v3 n v12 = some v4) (fun v12 => [(2, AV.ptr 0 0), (3, AV.ptr 1 0), (5, AV.int .i64 v12)]) (fun v12 => [(0, .cells [AV.lst false false (List.map (AV.int .i64) v0), AV.lst false false (List.map api_Pin.av v1)]), (1, .cells [AV.lst false false (List.map (AV.int .i64) v2), AV.lst false false (List.map api_Pin.av v3)])]) 2 k (0) hF (by simp) (by simp) (by simp) ?_
    rintro (_|n4) v12 hF K747 hK747
    · try dsimp only at hF
      rw [ref23_Order.L4] at hF; cases hF
    try dsimp only at hF
    rw [ref23_Order.L4] at hF
    refine AW.seq fun K749 hK749 => ?_
    refine AW.seqR mixed [] [none, none, none, none, none, none, some (18, true), some (18, true), some (18, true), some (18, true), some (18, true), none] (by kernel_rfl) fun G750 R750 hG750 hR750 => ?_
    by_cases h18 : v12 < (v0.length : Int)
    · replace hF := ite_t h18 hF
      have h18_ := h18
      try simp at h18_
      try simp [h18, h18_]
      repeat' apply And.intro
      any_goals (first | exact hG750 _ (by kernel_rfl) | refine hR750 _ _ _ ?_ | omega | (unfold maxLen; omega) | (simp [h18, h18_]; done) | (simp [h18, h18_]; omega))
      refine AW.wk [(2, AV.ptr 0 0), (3, AV.ptr 1 0), (5, AV.int .i64 v12), (24, AV.bool (decide (v12 < (v2.length : Int))))] [(0, .cells [AV.lst false false (List.map (AV.int .i64) v0), AV.lst false false (List.map api_Pin.av v1)]), (1, .cells [AV.lst false false (List.map (AV.int .i64) v2), AV.lst false false (List.map api_Pin.av v3)])] 2 (by simp [h18, h18_]) (by simp [h18, h18_]) (by simp) ?_
      by_cases h19 : v12 < (v2.length : Int)
      · replace hF := ite_t h19 hF
        have h19_ := h19
        try simp at h19_
        refine AW.condT (by decide) (by first | (simp [h18, h18_, h19, h19_]; done) | (simp [h18, h18_, h19, h19_]; omega)) ?_
        refine AW.skip ?_
        refine hK749 _ _ _ ?_
        refine AW.seq fun K754 hK754 => ?_
        refine AW.block ?_
        refine AW.seqR mixed [] [none, none, none, none, none, none, none, none, none, none, none, none] (by kernel_rfl) fun G755 R755 hG755 hR755 => ?_
        obtain ⟨v13, h20, h21, h22, hF⟩ := idx_elim hF
        have h22_ := get_of h22
        try simp at h22_
        have h21_ := h21
        try simp at h21_
        obtain ⟨v14, h23, h24, h25, hF⟩ := idx_elim hF
        have h25_ := get_of h25
        try simp at h25_
        have h24_ := h24
        try simp at h24_
        try simp [h18, h18_, h19, h19_, h20, h21, h22, h22_, h21_, h23, h24, h25, h25_, h24_]
        repeat' apply And.intro
        try any_goals (first | omega | (unfold maxLen; omega) | (simp [h18, h18_, h19, h19_, h20, h21, h22, h22_, h21_, h23, h24, h25, h25_, h24_]; done))
        obtain ⟨v15, h26, hF⟩ := bnd1_elim hF
        refine aCall_l (w_ref23_cmp k _ _ _ h26) (by simp) [] [] [] rfl (.cons (.same (by simp [h18, h18_, h19, h19_, h20, h21, h22, h22_, h21_, h23, h24, h25, h25_, h24_])) (.cons (.same (by simp [h18, h18_, h19, h19_, h20, h21, h22, h22_, h21_, h23, h24, h25, h25_, h24_])) .nil)) (by simp [h18, h18_, h19, h19_, h20, h21, h22, h22_, h21_, h23, h24, h25, h25_, h24_]) (by decide) (by simp) (by simp) (.inl rfl) (by simp) (by simp) ?_
        try simp [h18, h18_, h19, h19_, h20, h21, h22, h22_, h21_, h23, h24, h25, h25_, h24_]
        repeat' apply And.intro
        any_goals (first | exact hG755 _ (by kernel_rfl) | refine hR755 _ _ _ ?_ | omega | (unfold maxLen; omega) | (simp [h18, h18_, h19, h19_, h20, h21, h22, h22_, h21_, h23, h24, h25, h25_, h24_]; done) | (simp [h18, h18_, h19, h19_, h20, h21, h22, h22_, h21_, h23, h24, h25, h25_, h24_]; omega))
        refine AW.wk [(2, AV.ptr 0 0), (3, AV.ptr 1 0), (5, AV.int .i64 v12), (6, AV.int .i64 v15)] [(0, .cells [AV.lst false false (List.map (AV.int .i64) v0), AV.lst false false (List.map api_Pin.av v1)]), (1, .cells [AV.lst false false (List.map (AV.int .i64) v2), AV.lst false false (List.map api_Pin.av v3)])] 2 (by simp [h18, h18_, h19, h19_, h20, h21, h22, h22_, h21_, h23, h24, h25, h25_, h24_]) (by simp [h18, h18_, h19, h19_, h20, h21, h22, h22_, h21_, h23, h24, h25, h25_, h24_]) (by simp) ?_
        refine AW.seqR mixed [] [none, none] (by kernel_rfl) fun G756 R756 hG756 hR756 => ?_
        try simp [h18, h18_, h19, h19_, h20, h21, h22, h22_, h21_, h23, h24, h25, h25_, h24_]
        repeat' apply And.intro
        any_goals (first | exact hG756 _ (by kernel_rfl) | refine hR756 _ _ _ ?_ | omega | (unfold maxLen; omega) | (simp [h18, h18_, h19, h19_, h20, h21, h22, h22_, h21_, h23, h24, h25, h25_, h24_]; done) | (simp [h18, h18_, h19, h19_, h20, h21, h22, h22_, h21_, h23, h24, h25, h25_, h24_]; omega))
        refine AW.wk [(2, AV.ptr 0 0), (3, AV.ptr 1 0), (5, AV.int .i64 v12), (6, AV.int .i64 v15), (39, AV.bool (v15 != 0))] [(0, .cells [AV.lst false false (List.map (AV.int .i64) v0), AV.lst false false (List.map api_Pin.av v1)]), (1, .cells [AV.lst false false (List.map (AV.int .i64) v2), AV.lst false false (List.map api_Pin.av v3)])] 2 (by simp [h18, h18_, h19, h19_, h20, h21, h22, h22_, h21_, h23, h24, h25, h25_, h24_]) (by simp [h18, h18_, h19, h19_, h20, h21, h22, h22_, h21_, h23, h24, h25, h25_, h24_]) (by simp) ?_
        by_cases h27 : v15 ≠ 0
        · replace hF := ite_t h27 hF
          have h27_ := eqb_f h27
          have h27__ := neb_t h27
          refine AW.condT (by decide) (by first | (simp [h18, h18_, h19, h19_, h20, h21, h22, h22_, h21_, h23, h24, h25, h25_, h24_, h27, h27_, h27__]; done) | (simp [h18, h18_, h19, h19_, h20, h21, h22, h22_, h21_, h23, h24, h25, h25_, h24_, h27, h27_, h27__]; omega)) ?_
          refine AW.seqR mixed [] [none, none] (by kernel_rfl) fun G757 R757 hG757 hR757 => ?_
          try simp [h18, h18_, h19, h19_, h20, h21, h22, h22_, h21_, h23, h24, h25, h25_, h24_, h27, h27_, h27__]
          repeat' apply And.intro
          any_goals (first | exact hG757 _ (by kernel_rfl) | refine hR757 _ _ _ ?_ | omega | (unfold maxLen; omega) | (simp [h18, h18_, h19, h19_, h20, h21, h22, h22_, h21_, h23, h24, h25, h25_, h24_, h27, h27_, h27__]; done) | (simp [h18, h18_, h19, h19_, h20, h21, h22, h22_, h21_, h23, h24, h25, h25_, h24_, h27, h27_, h27__]; omega))
          refine AW.wk [(4, AV.int .i64 v15)] [] 2 (by simp [h18, h18_, h19, h19_, h20, h21, h22, h22_, h21_, h23, h24, h25, h25_, h24_, h27, h27_, h27__]) (by simp [h18, h18_, h19, h19_, h20, h21, h22, h22_, h21_, h23, h24, h25, h25_, h24_, h27, h27_, h27__]) (by simp) ?_
          simp only [Option.some.injEq] at hF
          subst hF
          refine AW.ret (hQ _ _ _ ?_ (matchO_0 ?_)).1
          · simp [Try.f78, h18, h18_, h19, h19_, h20, h21, h22, h22_, h21_, h23, h24, h25, h25_, h24_, h27, h27_, h27__]
          · simp [h18, h18_, h19, h19_, h20, h21, h22, h22_, h21_, h23, h24, h25, h25_, h24_, h27, h27_, h27__]
        · replace hF := ite_f h27 hF
          have h27q : v15 = 0 := Classical.not_not.1 h27
          have h27_ := eqb_t h27q
          have h27__ := neb_f h27q
          refine AW.condF (by decide) (by first | (simp [h18, h18_, h19, h19_, h20, h21, h22, h22_, h21_, h23, h24, h25, h25_, h24_, h27_, h27__, h27q]; done) | (simp [h18, h18_, h19, h19_, h20, h21, h22, h22_, h21_, h23, h24, h25, h25_, h24_, h27_, h27__, h27q]; omega)) ?_
          refine AW.skip ?_
          refine hK754 _ _ _ ?_
          refine AW.region mixed [] [none, none, none] (by kernel_rfl) fun G758 R758 hG758 hR758 => ?_
          try simp [h18, h18_, h19, h19_, h20, h21, h22, h22_, h21_, h23, h24, h25, h25_, h24_, h27_, h27__, h27q]
          repeat' apply And.intro
          any_goals (first | exact hG758 _ (by kernel_rfl) | refine hR758 _ _ _ ?_ | omega | (unfold maxLen; omega) | (simp [h18, h18_, h19, h19_, h20, h21, h22, h22_, h21_, h23, h24, h25, h25_, h24_, h27_, h27__, h27q]; done) | (simp [h18, h18_, h19, h19_, h20, h21, h22, h22_, h21_, h23, h24, h25, h25_, h24_, h27_, h27__, h27q]; omega))
          refine hK747 _ _ _ ?_
          refine Can.weak [(2, AV.ptr 0 0), (3, AV.ptr 1 0), (5, AV.int .i64 (IntKind.wrap .i64 (v12 + 1)))] [(0, .cells [AV.lst false false (List.map (AV.int .i64) v0), AV.lst false false (List.map api_Pin.av v1)]), (1, .cells [AV.lst false false (List.map (AV.int .i64) v2), AV.lst false false (List.map api_Pin.av v3)])] 2 (by simp [h18, h18_, h19, h19_, h20, h21, h22, h22_, h21_, h23, h24, h25, h25_, h24_, h27_, h27__, h27q]) (by simp [h18, h18_, h19, h19_, h20, h21, h22, h22_, h21_, h23, h24, h25, h25_, h24_, h27_, h27__, h27q]) (by simp) ?_
          exact Can.next (k' := n4) (IntKind.wrap .i64 (v12 + 1)) (by omega) hF (by simp [h18, h18_, h19, h19_, h20, h21, h22, h22_, h21_, h23, h24, h25, h25_, h24_, h27_, h27__, h27q]) (by simp [h18, h18_, h19, h19_, h20, h21, h22, h22_, h21_, h23, h24, h25, h25_, h24_, h27_, h27__, h27q]) (by simp)
      · replace hF := ite_f h19 hF
        have h19_ := h19
        try simp at h19_
        refine AW.condF (by decide) (by first | (simp [h18, h18_, h19, h19_]; done) | (simp [h18, h18_, h19, h19_]; omega)) ?_
        refine AW.exit ?_
        try simp
        refine hK723 _ _ _ ?_
        exact Can.join (()) hF (by simp [h18, h18_, h19, h19_]) (by simp [h18, h18_, h19, h19_]) (by simp)
    · replace hF := ite_f h18 hF
      have h18_ := h18
      try simp at h18_
      try simp [h18, h18_]
      repeat' apply And.intro
      any_goals (first | exact hG750 _ (by kernel_rfl) | refine hR750 _ _ _ ?_ | omega | (unfold maxLen; omega) | (simp [h18, h18_]; done) | (simp [h18, h18_]; omega))
      refine AW.wk [(2, AV.ptr 0 0), (3, AV.ptr 1 0), (5, AV.int .i64 v12), (24, AV.bool false)] [(0, .cells [AV.lst false false (List.map (AV.int .i64) v0), AV.lst false false (List.map api_Pin.av v1)]), (1, .cells [AV.lst false false (List.map (AV.int .i64) v2), AV.lst false false (List.map api_Pin.av v3)])] 2 (by simp [h18, h18_]) (by simp [h18, h18_]) (by simp) ?_
      refine AW.condF (by decide) (by simp [h18, h18_]) ?_
      refine AW.exit ?_
      try simp
      refine hK723 _ _ _ ?_
      exact Can.join (()) hF (by simp [h18, h18_]) (by simp [h18, h18_]) (by simp)
  · rintro ⟨⟩ hF
    try dsimp only at hF
    unfold ref23_Order.J1 at hF
    refine AW.seq fun K419 hK419 => ?_
    refine AW.seqR mixed [] [none, none, none, none, none, none, none, none] (by kernel_rfl) fun G420 R420 hG420 hR420 => ?_
    try simp
    repeat' apply And.intro
    try any_goals (first | omega | (unfold maxLen; omega) | (simp; done))
    obtain ⟨v5, h1, hF⟩ := bnd1_elim hF
    refine aCall_l (w_ref23_cmp k _ _ _ h1) (by simp) [] [] [] rfl (.cons (.same (by simp)) (.cons (.same (by simp)) .nil)) (by simp) (by decide) (by simp) (by simp) (.inl rfl) (by simp) (by simp) ?_
    try simp
    repeat' apply And.intro
    any_goals (first | exact hG420 _ (by kernel_rfl) | refine hR420 _ _ _ ?_ | omega | (unfold maxLen; omega) | (simp; done) | (simp; omega))
    refine AW.wk [(2, AV.ptr 0 0), (3, AV.ptr 1 0), (7, AV.int .i64 v5)] [(0, .cells [AV.lst false false (List.map (AV.int .i64) v0), AV.lst false false (List.map api_Pin.av v1)]), (1, .cells [AV.lst false false (List.map (AV.int .i64) v2), AV.lst false false (List.map api_Pin.av v3)])] 2 (by simp) (by simp) (by simp) ?_
    refine AW.seqR mixed [] [none, none] (by kernel_rfl) fun G421 R421 hG421 hR421 => ?_
    try simp
    repeat' apply And.intro
    any_goals (first | exact hG421 _ (by kernel_rfl) | refine hR421 _ _ _ ?_ | omega | (unfold maxLen; omega) | (simp; done) | (simp; omega))
    refine AW.wk [(2, AV.ptr 0 0), (3, AV.ptr 1 0), (7, AV.int .i64 v5), (49, AV.bool (v5 != 0))] [(0, .cells [AV.lst false false (List.map (AV.int .i64) v0), AV.lst false false (List.map api_Pin.av v1)]), (1, .cells [AV.lst false false (List.map (AV.int .i64) v2), AV.lst false false (List.map api_Pin.av v3)])] 2 (by simp) (by simp) (by simp) ?_
    by_cases h2 : v5 ≠ 0
    · replace hF := ite_t h2 hF
      have h2_ := eqb_f h2
      have h2__ := neb_t h2
      refine AW.condT (by decide) (by first | (simp [h2, h2_, h2__]; done) | (simp [h2, h2_, h2__]; omega)) ?_
      refine AW.seqR mixed [] [none, none] (by kernel_rfl) fun G422 R422 hG422 hR422 => ?_
      try simp [h2, h2_, h2__]
      repeat' apply And.intro
      any_goals (first | exact hG422 _ (by kernel_rfl) | refine hR422 _ _ _ ?_ | omega | (unfold maxLen; omega) | (simp [h2, h2_, h2__]; done) | (simp [h2, h2_, h2__]; omega))
      refine AW.wk [(4, AV.int .i64 v5)] [] 2 (by simp [h2, h2_, h2__]) (by simp [h2, h2_, h2__]) (by simp) ?_
      simp only [Option.some.injEq] at hF
      subst hF
      refine AW.ret (hQ _ _ _ ?_ (matchO_0 ?_)).1
      · simp [Try.f78, h2, h2_, h2__]
      · simp [h2, h2_, h2__]
    · replace hF := ite_f h2 hF
      have h2q : v5 = 0 := Classical.not_not.1 h2
      have h2_ := eqb_t h2q
      have h2__ := neb_f h2q
      refine AW.condF (by decide) (by first | (simp [h2_, h2__, h2q]; done) | (simp [h2_, h2__, h2q]; omega)) ?_
      refine AW.skip ?_
      refine hK419 _ _ _ ?_
      refine AW.midF (α := Unit) (fun _ => ref23_Order.J2 k v1 v3 = some v4) (fun _ => [(2, AV.ptr 0 0), (3, AV.ptr 1 0)]) (fun _ => [(0, .cells [AV.lst false false (List.map (AV.int .i64) v0), AV.lst false false (List.map api_Pin.av v1)]), (1, .cells [AV.lst false false (List.map (AV.int .i64) v2), AV.lst false false (List.map api_Pin.av v3)])]) 2 (fun K573 hK573 => ?_) ?_
      · refine AW.seqR mixed [] [none] (by kernel_rfl) fun G574 R574 hG574 hR574 => ?_
        try simp [h2_, h2__, h2q]
        repeat' apply And.intro
        any_goals (first | exact hG574 _ (by kernel_rfl) | refine hR574 _ _ _ ?_ | omega | (unfold maxLen; omega) | (simp [h2_, h2__, h2q]; done) | (simp [h2_, h2__, h2q]; omega))
        refine AW.wk [(2, AV.ptr 0 0), (3, AV.ptr 1 0), (8, AV.int .i64 0)] [(0, .cells [AV.lst false false (List.map (AV.int .i64) v0), AV.lst false false (List.map api_Pin.av v1)]), (1, .cells [AV.lst false false (List.map (AV.int .i64) v2), AV.lst false false (List.map api_Pin.av v3)])] 2 (by simp [h2_, h2__, h2q]) (by simp [h2_, h2__, h2q]) (by simp) ?_
        refine AW.block ?_
        refine AW.loopF (α := Int) (fun n v7 => ref23_Order.L3 k v1 v3 n v7 = some v4) (fun v7 => [(2, AV.ptr 0 0), (3, AV.ptr 1 0), (8, AV.int .i64 v7)]) (fun v7 => [(0, .cells [AV.lst false false (List.map (AV.int .i64) v0), AV.lst false false (List.map api_Pin.av v1)]), (1, .cells [AV.lst false false (List.map (AV.int .i64) v2), AV.lst false false (List.map api_Pin.av v3)])]) 2 k (0) hF (by simp [h2_, h2__, h2q]) (by simp [h2_, h2__, h2q]) (by simp) ?_
        rintro (_|n3) v7 hF K673 hK673
        · try dsimp only at hF
          rw [ref23_Order.L3] at hF; cases hF
        try dsimp only at hF
        rw [ref23_Order.L3] at hF
        refine AW.seq fun K675 hK675 => ?_
        refine AW.seqR mixed [] [none, none, none, none, none, none, some (56, true), some (56, true), some (56, true), some (56, true), some (56, true), none] (by kernel_rfl) fun G676 R676 hG676 hR676 => ?_
        by_cases h4 : v7 < (v1.length : Int)
        · replace hF := ite_t h4 hF
          have h4_ := h4
          try simp at h4_
          try simp [h2_, h2__, h2q, h4, h4_]
          repeat' apply And.intro
          any_goals (first | exact hG676 _ (by kernel_rfl) | refine hR676 _ _ _ ?_ | omega | (unfold maxLen; omega) | (simp [h2_, h2__, h2q, h4, h4_]; done) | (simp [h2_, h2__, h2q, h4, h4_]; omega))
          refine AW.wk [(2, AV.ptr 0 0), (3, AV.ptr 1 0), (8, AV.int .i64 v7), (62, AV.bool (decide (v7 < (v3.length : Int))))] [(0, .cells [AV.lst false false (List.map (AV.int .i64) v0), AV.lst false false (List.map api_Pin.av v1)]), (1, .cells [AV.lst false false (List.map (AV.int .i64) v2), AV.lst false false (List.map api_Pin.av v3)])] 2 (by simp [h2_, h2__, h2q, h4, h4_]) (by simp [h2_, h2__, h2q, h4, h4_]) (by simp) ?_
          by_cases h5 : v7 < (v3.length : Int)
          · replace hF := ite_t h5 hF
            have h5_ := h5
            try simp at h5_
            refine AW.condT (by decide) (by first | (simp [h2_, h2__, h2q, h4, h4_, h5, h5_]; done) | (simp [h2_, h2__, h2q, h4, h4_, h5, h5_]; omega)) ?_
            refine AW.skip ?_
            refine hK675 _ _ _ ?_
            refine AW.seq fun K699 hK699 => ?_
            refine AW.block ?_
            refine AW.seqR mixed [] [none, none, none, none, none, none, none, none, none, none, none, none, none, none] (by kernel_rfl) fun G700 R700 hG700 hR700 => ?_
            obtain ⟨v8, h6, h7, h8, hF⟩ := idx_elim hF
            have h8_ := get_of h8
            try simp at h8_
            have h7_ := h7
            try simp at h7_
            obtain ⟨v9, h9, h10, h11, hF⟩ := idx_elim hF
            have h11_ := get_of h11
            try simp at h11_
            have h10_ := h10
            try simp at h10_
            try simp [h2_, h2__, h2q, h4, h4_, h5, h5_, h6, h7, h8, h8_, h7_, h9, h10, h11, h11_, h10_]
            repeat' apply And.intro
            any_goals (first | exact hG700 _ (by kernel_rfl) | refine hR700 _ _ _ ?_ | omega | (unfold maxLen; omega) | (simp [h2_, h2__, h2q, h4, h4_, h5, h5_, h6, h7, h8, h8_, h7_, h9, h10, h11, h11_, h10_]; done) | (simp [h2_, h2__, h2q, h4, h4_, h5, h5_, h6, h7, h8, h8_, h7_, h9, h10, h11, h11_, h10_]; omega))
            refine AW.wk [(2, AV.ptr 0 0), (3, AV.ptr 1 0), (8, AV.int .i64 v7), (9, AV.ptr 2 0), (10, AV.ptr 3 0)] [(0, .cells [AV.lst false false (List.map (AV.int .i64) v0), AV.lst false false (List.map api_Pin.av v1)]), (1, .cells [AV.lst false false (List.map (AV.int .i64) v2), AV.lst false false (List.map api_Pin.av v3)]), (2, .cells [AV.int .i64 v8.Author, AV.int .i64 v8.Height, AV.str v8.Digest]), (3, .cells [AV.int .i64 v9.Author, AV.int .i64 v9.Height, AV.str v9.Digest])] 4 (by simp [h2_, h2__, h2q, h4, h4_, h5, h5_, h6, h7, h8, h8_, h7_, h9, h10, h11, h11_, h10_]) (by simp [h2_, h2__, h2q, h4, h4_, h5, h5_, h6, h7, h8, h8_, h7_, h9, h10, h11, h11_, h10_]) (by simp) ?_
            refine AW.seq fun K704 hK704 => ?_
            refine AW.seqR mixed [] [none, none, none, none, none, none] (by kernel_rfl) fun G705 R705 hG705 hR705 => ?_
            try simp [h2_, h2__, h2q, h4, h4_, h5, h5_, h6, h7, h8, h8_, h7_, h9, h10, h11, h11_, h10_]
            repeat' apply And.intro
            try any_goals (first | omega | (unfold maxLen; omega) | (simp [h2_, h2__, h2q, h4, h4_, h5, h5_, h6, h7, h8, h8_, h7_, h9, h10, h11, h11_, h10_]; done))
            obtain ⟨v10, h12, hF⟩ := bnd1_elim hF
            refine aCall_l (w_ref23_cmp k _ _ _ h12) (by simp) [] [] [] rfl (.cons (.same (by simp [h2_, h2__, h2q, h4, h4_, h5, h5_, h6, h7, h8, h8_, h7_, h9, h10, h11, h11_, h10_])) (.cons (.same (by simp [h2_, h2__, h2q, h4, h4_, h5, h5_, h6, h7, h8, h8_, h7_, h9, h10, h11, h11_, h10_])) .nil)) (by simp [h2_, h2__, h2q, h4, h4_, h5, h5_, h6, h7, h8, h8_, h7_, h9, h10, h11, h11_, h10_]) (by decide) (by simp) (by simp) (.inl rfl) (by simp) (by simp) ?_
            try simp [h2_, h2__, h2q, h4, h4_, h5, h5_, h6, h7, h8, h8_, h7_, h9, h10, h11, h11_, h10_]
            repeat' apply And.intro
            any_goals (first | exact hG705 _ (by kernel_rfl) | refine hR705 _ _ _ ?_ | omega | (unfold maxLen; omega) | (simp [h2_, h2__, h2q, h4, h4_, h5, h5_, h6, h7, h8, h8_, h7_, h9, h10, h11, h11_, h10_]; done) | (simp [h2_, h2__, h2q, h4, h4_, h5, h5_, h6, h7, h8, h8_, h7_, h9, h10, h11, h11_, h10_]; omega))
            refine AW.wk [(2, AV.ptr 0 0), (3, AV.ptr 1 0), (8, AV.int .i64 v7), (9, AV.ptr 2 0), (10, AV.ptr 3 0), (11, AV.int .i64 v10)] [(0, .cells [AV.lst false false (List.map (AV.int .i64) v0), AV.lst false false (List.map api_Pin.av v1)]), (1, .cells [AV.lst false false (List.map (AV.int .i64) v2), AV.lst false false (List.map api_Pin.av v3)]), (2, .cells [AV.int .i64 v8.Author, AV.int .i64 v8.Height, AV.str v8.Digest]), (3, .cells [AV.int .i64 v9.Author, AV.int .i64 v9.Height, AV.str v9.Digest])] 4 (by simp [h2_, h2__, h2q, h4, h4_, h5, h5_, h6, h7, h8, h8_, h7_, h9, h10, h11, h11_, h10_]) (by simp [h2_, h2__, h2q, h4, h4_, h5, h5_, h6, h7, h8, h8_, h7_, h9, h10, h11, h11_, h10_]) (by simp) ?_
            refine AW.seqR mixed [] [none, none] (by kernel_rfl) fun G706 R706 hG706 hR706 => ?_
            try simp [h2_, h2__, h2q, h4, h4_, h5, h5_, h6, h7, h8, h8_, h7_, h9, h10, h11, h11_, h10_]
            repeat' apply And.intro
            any_goals (first | exact hG706 _ (by kernel_rfl) | refine hR706 _ _ _ ?_ | omega | (unfold maxLen; omega) | (simp [h2_, h2__, h2q, h4, h4_, h5, h5_, h6, h7, h8, h8_, h7_, h9, h10, h11, h11_, h10_]; done) | (simp [h2_, h2__, h2q, h4, h4_, h5, h5_, h6, h7, h8, h8_, h7_, h9, h10, h11, h11_, h10_]; omega))
            refine AW.wk [(2, AV.ptr 0 0), (3, AV.ptr 1 0), (8, AV.int .i64 v7), (9, AV.ptr 2 0), (10, AV.ptr 3 0), (11, AV.int .i64 v10), (81, AV.bool (v10 != 0))] [(0, .cells [AV.lst false false (List.map (AV.int .i64) v0), AV.lst false false (List.map api_Pin.av v1)]), (1, .cells [AV.lst false false (List.map (AV.int .i64) v2), AV.lst false false (List.map api_Pin.av v3)]), (2, .cells [AV.int .i64 v8.Author, AV.int .i64 v8.Height, AV.str v8.Digest]), (3, .cells [AV.int .i64 v9.Author, AV.int .i64 v9.Height, AV.str v9.Digest])] 4 (by simp [h2_, h2__, h2q, h4, h4_, h5, h5_, h6, h7, h8, h8_, h7_, h9, h10, h11, h11_, h10_]) (by simp [h2_, h2__, h2q, h4, h4_, h5, h5_, h6, h7, h8, h8_, h7_, h9, h10, h11, h11_, h10_]) (by simp) ?_
            by_cases h13 : v10 ≠ 0
            · replace hF := ite_t h13 hF
              have h13_ := eqb_f h13
              have h13__ := neb_t h13
              refine AW.condT (by decide) (by first | (simp [h2_, h2__, h2q, h4, h4_, h5, h5_, h6, h7, h8, h8_, h7_, h9, h10, h11, h11_, h10_, h13, h13_, h13__]; done) | (simp [h2_, h2__, h2q, h4, h4_, h5, h5_, h6, h7, h8, h8_, h7_, h9, h10, h11, h11_, h10_, h13, h13_, h13__]; omega)) ?_
              refine AW.seqR mixed [] [none, none] (by kernel_rfl) fun G707 R707 hG707 hR707 => ?_
              try simp [h2_, h2__, h2q, h4, h4_, h5, h5_, h6, h7, h8, h8_, h7_, h9, h10, h11, h11_, h10_, h13, h13_, h13__]
              repeat' apply And.intro
              any_goals (first | exact hG707 _ (by kernel_rfl) | refine hR707 _ _ _ ?_ | omega | (unfold maxLen; omega) | (simp [h2_, h2__, h2q, h4, h4_, h5, h5_, h6, h7, h8, h8_, h7_, h9, h10, h11, h11_, h10_, h13, h13_, h13__]; done) | (simp [h2_, h2__, h2q, h4, h4_, h5, h5_, h6, h7, h8, h8_, h7_, h9, h10, h11, h11_, h10_, h13, h13_, h13__]; omega))
              refine AW.wk [(4, AV.int .i64 v10)] [] 4 (by simp [h2_, h2__, h2q, h4, h4_, h5, h5_, h6, h7, h8, h8_, h7_, h9, h10, h11, h11_, h10_, h13, h13_, h13__]) (by simp [h2_, h2__, h2q, h4, h4_, h5, h5_, h6, h7, h8, h8_, h7_, h9, h10, h11, h11_, h10_, h13, h13_, h13__]) (by simp) ?_
              simp only [Option.some.injEq] at hF
              subst hF
              refine AW.ret (hQ _ _ _ ?_ (matchO_0 ?_)).1
              · simp [Try.f78, h2_, h2__, h2q, h4, h4_, h5, h5_, h6, h7, h8, h8_, h7_, h9, h10, h11, h11_, h10_, h13, h13_, h13__]
              · simp [h2_, h2__, h2q, h4, h4_, h5, h5_, h6, h7, h8, h8_, h7_, h9, h10, h11, h11_, h10_, h13, h13_, h13__]
            · replace hF := ite_f h13 hF
              have h13q : v10 = 0 := Classical.not_not.1 h13
              have h13_ := eqb_t h13q
              have h13__ := neb_f h13q
              refine AW.condF (by decide) (by first | (simp [h2_, h2__, h2q, h4, h4_, h5, h5_, h6, h7, h8, h8_, h7_, h9, h10, h11, h11_, h10_, h13_, h13__, h13q]; done) | (simp [h2_, h2__, h2q, h4, h4_, h5, h5_, h6, h7, h8, h8_, h7_, h9, h10, h11, h11_, h10_, h13_, h13__, h13q]; omega)) ?_
              refine AW.skip ?_
              refine hK704 _ _ _ ?_
              refine AW.seq fun K711 hK711 => ?_
              refine AW.seqR mixed [] [none, none, none, none, none, none] (by kernel_rfl) fun G712 R712 hG712 hR712 => ?_
              try simp [h2_, h2__, h2q, h4, h4_, h5, h5_, h6, h7, h8, h8_, h7_, h9, h10, h11, h11_, h10_, h13_, h13__, h13q]
              repeat' apply And.intro
              try any_goals (first | omega | (unfold maxLen; omega) | (simp [h2_, h2__, h2q, h4, h4_, h5, h5_, h6, h7, h8, h8_, h7_, h9, h10, h11, h11_, h10_, h13_, h13__, h13q]; done))
              obtain ⟨v11, h14, hF⟩ := bnd1_elim hF
              refine aCall_l (w_ref23_cmp k _ _ _ h14) (by simp) [] [] [] rfl (.cons (.same (by simp [h2_, h2__, h2q, h4, h4_, h5, h5_, h6, h7, h8, h8_, h7_, h9, h10, h11, h11_, h10_, h13_, h13__, h13q])) (.cons (.same (by simp [h2_, h2__, h2q, h4, h4_, h5, h5_, h6, h7, h8, h8_, h7_, h9, h10, h11, h11_, h10_, h13_, h13__, h13q])) .nil)) (by simp [h2_, h2__, h2q, h4, h4_, h5, h5_, h6, h7, h8, h8_, h7_, h9, h10, h11, h11_, h10_, h13_, h13__, h13q]) (by decide) (by simp) (by simp) (.inl rfl) (by simp) (by simp) ?_
              try simp [h2_, h2__, h2q, h4, h4_, h5, h5_, h6, h7, h8, h8_, h7_, h9, h10, h11, h11_, h10_, h13_, h13__, h13q]
              repeat' apply And.intro
              any_goals (first | exact hG712 _ (by kernel_rfl) | refine hR712 _ _ _ ?_ | omega | (unfold maxLen; omega) | (simp [h2_, h2__, h2q, h4, h4_, h5, h5_, h6, h7, h8, h8_, h7_, h9, h10, h11, h11_, h10_, h13_, h13__, h13q]; done) | (simp [h2_, h2__, h2q, h4, h4_, h5, h5_, h6, h7, h8, h8_, h7_, h9, h10, h11, h11_, h10_, h13_, h13__, h13q]; omega))
              refine AW.wk [(2, AV.ptr 0 0), (3, AV.ptr 1 0), (8, AV.int .i64 v7), (9, AV.ptr 2 0), (10, AV.ptr 3 0), (12, AV.int .i64 v11)] [(0, .cells [AV.lst false false (List.map (AV.int .i64) v0), AV.lst false false (List.map api_Pin.av v1)]), (1, .cells [AV.lst false false (List.map (AV.int .i64) v2), AV.lst false false (List.map api_Pin.av v3)]), (2, .cells [AV.int .i64 v8.Author, AV.int .i64 v8.Height, AV.str v8.Digest]), (3, .cells [AV.int .i64 v9.Author, AV.int .i64 v9.Height, AV.str v9.Digest])] 4 (by simp [h2_, h2__, h2q, h4, h4_, h5, h5_, h6, h7, h8, h8_, h7_, h9, h10, h11, h11_, h10_, h13_, h13__, h13q]) (by simp [h2_, h2__, h2q, h4, h4_, h5, h5_, h6, h7, h8, h8_, h7_, h9, h10, h11, h11_, h10_, h13_, h13__, h13q]) (by simp) ?_
              refine AW.seqR mixed [] [none, none] (by kernel_rfl) fun G713 R713 hG713 hR713 => ?_
              try simp [h2_, h2__, h2q, h4, h4_, h5, h5_, h6, h7, h8, h8_, h7_, h9, h10, h11, h11_, h10_, h13_, h13__, h13q]
              repeat' apply And.intro
              any_goals (first | exact hG713 _ (by kernel_rfl) | refine hR713 _ _ _ ?_ | omega | (unfold maxLen; omega) | (simp [h2_, h2__, h2q, h4, h4_, h5, h5_, h6, h7, h8, h8_, h7_, h9, h10, h11, h11_, h10_, h13_, h13__, h13q]; done) | (simp [h2_, h2__, h2q, h4, h4_, h5, h5_, h6, h7, h8, h8_, h7_, h9, h10, h11, h11_, h10_, h13_, h13__, h13q]; omega))
              refine AW.wk [(2, AV.ptr 0 0), (3, AV.ptr 1 0), (8, AV.int .i64 v7), (9, AV.ptr 2 0), (10, AV.ptr 3 0), (12, AV.int .i64 v11), (89, AV.bool (v11 != 0))] [(0, .cells [AV.lst false false (List.map (AV.int .i64) v0), AV.lst false false (List.map api_Pin.av v1)]), (1, .cells [AV.lst false false (List.map (AV.int .i64) v2), AV.lst false false (List.map api_Pin.av v3)]), (2, .cells [AV.int .i64 v8.Author, AV.int .i64 v8.Height, AV.str v8.Digest]), (3, .cells [AV.int .i64 v9.Author, AV.int .i64 v9.Height, AV.str v9.Digest])] 4 (by simp [h2_, h2__, h2q, h4, h4_, h5, h5_, h6, h7, h8, h8_, h7_, h9, h10, h11, h11_, h10_, h13_, h13__, h13q]) (by simp [h2_, h2__, h2q, h4, h4_, h5, h5_, h6, h7, h8, h8_, h7_, h9, h10, h11, h11_, h10_, h13_, h13__, h13q]) (by simp) ?_
              by_cases h15 : v11 ≠ 0
              · replace hF := ite_t h15 hF
                have h15_ := eqb_f h15
                have h15__ := neb_t h15
                refine AW.condT (by decide) (by first | (simp [h2_, h2__, h2q, h4, h4_, h5, h5_, h6, h7, h8, h8_, h7_, h9, h10, h11, h11_, h10_, h13_, h13__, h13q, h15, h15_, h15__]; done) | (simp [h2_, h2__, h2q, h4, h4_, h5, h5_, h6, h7, h8, h8_, h7_, h9, h10, h11, h11_, h10_, h13_, h13__, h13q, h15, h15_, h15__]; omega)) ?_
                refine AW.seqR mixed [] [none, none] (by kernel_rfl) fun G714 R714 hG714 hR714 => ?_
                try simp [h2_, h2__, h2q, h4, h4_, h5, h5_, h6, h7, h8, h8_, h7_, h9, h10, h11, h11_, h10_, h13_, h13__, h13q, h15, h15_, h15__]
                repeat' apply And.intro
                any_goals (first | exact hG714 _ (by kernel_rfl) | refine hR714 _ _ _ ?_ | omega | (unfold maxLen; omega) | (simp [h2_, h2__, h2q, h4, h4_, h5, h5_, h6, h7, h8, h8_, h7_, h9, h10, h11, h11_, h10_, h13_, h13__, h13q, h15, h15_, h15__]; done) | (simp [h2_, h2__, h2q, h4, h4_, h5, h5_, h6, h7, h8, h8_, h7_, h9, h10, h11, h11_, h10_, h13_, h13__, h13q, h15, h15_, h15__]; omega))
                refine AW.wk [(4, AV.int .i64 v11)] [] 4 (by simp [h2_, h2__, h2q, h4, h4_, h5, h5_, h6, h7, h8, h8_, h7_, h9, h10, h11, h11_, h10_, h13_, h13__, h13q, h15, h15_, h15__]) (by simp [h2_, h2__, h2q, h4, h4_, h5, h5_, h6, h7, h8, h8_, h7_, h9, h10, h11, h11_, h10_, h13_, h13__, h13q, h15, h15_, h15__]) (by simp) ?_
                simp only [Option.some.injEq] at hF
                subst hF
                refine AW.ret (hQ _ _ _ ?_ (matchO_0 ?_)).1
                · simp [Try.f78, h2_, h2__, h2q, h4, h4_, h5, h5_, h6, h7, h8, h8_, h7_, h9, h10, h11, h11_, h10_, h13_, h13__, h13q, h15, h15_, h15__]
                · simp [h2_, h2__, h2q, h4, h4_, h5, h5_, h6, h7, h8, h8_, h7_, h9, h10, h11, h11_, h10_, h13_, h13__, h13q, h15, h15_, h15__]
              · replace hF := ite_f h15 hF
                have h15q : v11 = 0 := Classical.not_not.1 h15
                have h15_ := eqb_t h15q
                have h15__ := neb_f h15q
                refine AW.condF (by decide) (by first | (simp [h2_, h2__, h2q, h4, h4_, h5, h5_, h6, h7, h8, h8_, h7_, h9, h10, h11, h11_, h10_, h13_, h13__, h13q, h15_, h15__, h15q]; done) | (simp [h2_, h2__, h2q, h4, h4_, h5, h5_, h6, h7, h8, h8_, h7_, h9, h10, h11, h11_, h10_, h13_, h13__, h13q, h15_, h15__, h15q]; omega)) ?_
                refine AW.skip ?_
                refine hK711 _ _ _ ?_
                refine AW.seqR mixed [] [none, none, none, none, none] (by kernel_rfl) fun G715 R715 hG715 hR715 => ?_
                try simp [h2_, h2__, h2q, h4, h4_, h5, h5_, h6, h7, h8, h8_, h7_, h9, h10, h11, h11_, h10_, h13_, h13__, h13q, h15_, h15__, h15q]
                repeat' apply And.intro
                any_goals (first | exact hG715 _ (by kernel_rfl) | refine hR715 _ _ _ ?_ | omega | (unfold maxLen; omega) | (simp [h2_, h2__, h2q, h4, h4_, h5, h5_, h6, h7, h8, h8_, h7_, h9, h10, h11, h11_, h10_, h13_, h13__, h13q, h15_, h15__, h15q]; done) | (simp [h2_, h2__, h2q, h4, h4_, h5, h5_, h6, h7, h8, h8_, h7_, h9, h10, h11, h11_, h10_, h13_, h13__, h13q, h15_, h15__, h15q]; omega))
                refine AW.wk [(2, AV.ptr 0 0), (3, AV.ptr 1 0), (8, AV.int .i64 v7), (9, AV.ptr 2 0), (10, AV.ptr 3 0), (95, AV.bool (!strEq v8.Digest v9.Digest))] [(0, .cells [AV.lst false false (List.map (AV.int .i64) v0), AV.lst false false (List.map api_Pin.av v1)]), (1, .cells [AV.lst false false (List.map (AV.int .i64) v2), AV.lst false false (List.map api_Pin.av v3)]), (2, .cells [AV.int .i64 v8.Author, AV.int .i64 v8.Height, AV.str v8.Digest]), (3, .cells [AV.int .i64 v9.Author, AV.int .i64 v9.Height, AV.str v9.Digest])] 4 (by simp [h2_, h2__, h2q, h4, h4_, h5, h5_, h6, h7, h8, h8_, h7_, h9, h10, h11, h11_, h10_, h13_, h13__, h13q, h15_, h15__, h15q]) (by simp [h2_, h2__, h2q, h4, h4_, h5, h5_, h6, h7, h8, h8_, h7_, h9, h10, h11, h11_, h10_, h13_, h13__, h13q, h15_, h15__, h15q]) (by simp) ?_
                by_cases h16 : (!strEq v8.Digest v9.Digest) = true
                · replace hF := ite_t h16 hF
                  have h16_ := h16
                  try simp at h16_
                  refine AW.condT (by decide) (by first | (simp [h2_, h2__, h2q, h4, h4_, h5, h5_, h6, h7, h8, h8_, h7_, h9, h10, h11, h11_, h10_, h13_, h13__, h13q, h15_, h15__, h15q, h16, h16_]; done) | (simp [h2_, h2__, h2q, h4, h4_, h5, h5_, h6, h7, h8, h8_, h7_, h9, h10, h11, h11_, h10_, h13_, h13__, h13q, h15_, h15__, h15q, h16, h16_]; omega)) ?_
                  refine AW.seq fun K718 hK718 => ?_
                  refine AW.seqR mixed [] [none, none, none, none, none] (by kernel_rfl) fun G719 R719 hG719 hR719 => ?_
                  try simp [h2_, h2__, h2q, h4, h4_, h5, h5_, h6, h7, h8, h8_, h7_, h9, h10, h11, h11_, h10_, h13_, h13__, h13q, h15_, h15__, h15q, h16, h16_]
                  repeat' apply And.intro
                  any_goals (first | exact hG719 _ (by kernel_rfl) | refine hR719 _ _ _ ?_ | omega | (unfold maxLen; omega) | (simp [h2_, h2__, h2q, h4, h4_, h5, h5_, h6, h7, h8, h8_, h7_, h9, h10, h11, h11_, h10_, h13_, h13__, h13q, h15_, h15__, h15q, h16, h16_]; done) | (simp [h2_, h2__, h2q, h4, h4_, h5, h5_, h6, h7, h8, h8_, h7_, h9, h10, h11, h11_, h10_, h13_, h13__, h13q, h15_, h15__, h15q, h16, h16_]; omega))
                  refine AW.wk [(100, AV.bool (strLt v8.Digest v9.Digest))] [] 4 (by simp [h2_, h2__, h2q, h4, h4_, h5, h5_, h6, h7, h8, h8_, h7_, h9, h10, h11, h11_, h10_, h13_, h13__, h13q, h15_, h15__, h15q, h16, h16_]) (by simp [h2_, h2__, h2q, h4, h4_, h5, h5_, h6, h7, h8, h8_, h7_, h9, h10, h11, h11_, h10_, h13_, h13__, h13q, h15_, h15__, h15q, h16, h16_]) (by simp) ?_
                  by_cases h17 : (strLt v8.Digest v9.Digest) = true
                  · replace hF := ite_t h17 hF
                    have h17_ := h17
                    try simp at h17_
                    refine AW.condT (by decide) (by first | (simp [h2_, h2__, h2q, h4, h4_, h5, h5_, h6, h7, h8, h8_, h7_, h9, h10, h11, h11_, h10_, h13_, h13__, h13q, h15_, h15__, h15q, h16, h16_, h17, h17_]; done) | (simp [h2_, h2__, h2q, h4, h4_, h5, h5_, h6, h7, h8, h8_, h7_, h9, h10, h11, h11_, h10_, h13_, h13__, h13q, h15_, h15__, h15q, h16, h16_, h17, h17_]; omega)) ?_
                    refine AW.seqR mixed [] [none] (by kernel_rfl) fun G720 R720 hG720 hR720 => ?_
                    try simp [h2_, h2__, h2q, h4, h4_, h5, h5_, h6, h7, h8, h8_, h7_, h9, h10, h11, h11_, h10_, h13_, h13__, h13q, h15_, h15__, h15q, h16, h16_, h17, h17_]
                    repeat' apply And.intro
                    any_goals (first | exact hG720 _ (by kernel_rfl) | refine hR720 _ _ _ ?_ | omega | (unfold maxLen; omega) | (simp [h2_, h2__, h2q, h4, h4_, h5, h5_, h6, h7, h8, h8_, h7_, h9, h10, h11, h11_, h10_, h13_, h13__, h13q, h15_, h15__, h15q, h16, h16_, h17, h17_]; done) | (simp [h2_, h2__, h2q, h4, h4_, h5, h5_, h6, h7, h8, h8_, h7_, h9, h10, h11, h11_, h10_, h13_, h13__, h13q, h15_, h15__, h15q, h16, h16_, h17, h17_]; omega))
                    refine AW.wk [(4, AV.int .i64 (-1))] [] 4 (by simp [h2_, h2__, h2q, h4, h4_, h5, h5_, h6, h7, h8, h8_, h7_, h9, h10, h11, h11_, h10_, h13_, h13__, h13q, h15_, h15__, h15q, h16, h16_, h17, h17_]) (by simp [h2_, h2__, h2q, h4, h4_, h5, h5_, h6, h7, h8, h8_, h7_, h9, h10, h11, h11_, h10_, h13_, h13__, h13q, h15_, h15__, h15q, h16, h16_, h17, h17_]) (by simp) ?_
                    simp only [Option.some.injEq] at hF
                    subst hF
                    refine AW.ret (hQ _ _ _ ?_ (matchO_0 ?_)).1
                    · simp [Try.f78, h2_, h2__, h2q, h4, h4_, h5, h5_, h6, h7, h8, h8_, h7_, h9, h10, h11, h11_, h10_, h13_, h13__, h13q, h15_, h15__, h15q, h16, h16_, h17, h17_]
                    · simp [h2_, h2__, h2q, h4, h4_, h5, h5_, h6, h7, h8, h8_, h7_, h9, h10, h11, h11_, h10_, h13_, h13__, h13q, h15_, h15__, h15q, h16, h16_, h17, h17_]
                  · replace hF := ite_f h17 hF
                    have h17_ := h17
                    try simp at h17_
                    refine AW.condF (by decide) (by first | (simp [h2_, h2__, h2q, h4, h4_, h5, h5_, h6, h7, h8, h8_, h7_, h9, h10, h11, h11_, h10_, h13_, h13__, h13q, h15_, h15__, h15q, h16, h16_, h17, h17_]; done) | (simp [h2_, h2__, h2q, h4, h4_, h5, h5_, h6, h7, h8, h8_, h7_, h9, h10, h11, h11_, h10_, h13_, h13__, h13q, h15_, h15__, h15q, h16, h16_, h17, h17_]; omega)) ?_
                    refine AW.skip ?_
                    refine hK718 _ _ _ ?_
                    refine AW.seqR mixed [] [none] (by kernel_rfl) fun G721 R721 hG721 hR721 => ?_
                    try simp [h2_, h2__, h2q, h4, h4_, h5, h5_, h6, h7, h8, h8_, h7_, h9, h10, h11, h11_, h10_, h13_, h13__, h13q, h15_, h15__, h15q, h16, h16_, h17, h17_]
                    repeat' apply And.intro
                    any_goals (first | exact hG721 _ (by kernel_rfl) | refine hR721 _ _ _ ?_ | omega | (unfold maxLen; omega) | (simp [h2_, h2__, h2q, h4, h4_, h5, h5_, h6, h7, h8, h8_, h7_, h9, h10, h11, h11_, h10_, h13_, h13__, h13q, h15_, h15__, h15q, h16, h16_, h17, h17_]; done) | (simp [h2_, h2__, h2q, h4, h4_, h5, h5_, h6, h7, h8, h8_, h7_, h9, h10, h11, h11_, h10_, h13_, h13__, h13q, h15_, h15__, h15q, h16, h16_, h17, h17_]; omega))
                    refine AW.wk [(4, AV.int .i64 1)] [] 4 (by simp [h2_, h2__, h2q, h4, h4_, h5, h5_, h6, h7, h8, h8_, h7_, h9, h10, h11, h11_, h10_, h13_, h13__, h13q, h15_, h15__, h15q, h16, h16_, h17, h17_]) (by simp [h2_, h2__, h2q, h4, h4_, h5, h5_, h6, h7, h8, h8_, h7_, h9, h10, h11, h11_, h10_, h13_, h13__, h13q, h15_, h15__, h15q, h16, h16_, h17, h17_]) (by simp) ?_
                    simp only [Option.some.injEq] at hF
                    subst hF
                    refine AW.ret (hQ _ _ _ ?_ (matchO_0 ?_)).1
                    · simp [Try.f78, h2_, h2__, h2q, h4, h4_, h5, h5_, h6, h7, h8, h8_, h7_, h9, h10, h11, h11_, h10_, h13_, h13__, h13q, h15_, h15__, h15q, h16, h16_, h17, h17_]
                    · simp [h2_, h2__, h2q, h4, h4_, h5, h5_, h6, h7, h8, h8_, h7_, h9, h10, h11, h11_, h10_, h13_, h13__, h13q, h15_, h15__, h15q, h16, h16_, h17, h17_]
                · replace hF := ite_f h16 hF
                  have h16_ := h16
                  try simp at h16_
                  refine AW.condF (by decide) (by first | (simp [h2_, h2__, h2q, h4, h4_, h5, h5_, h6, h7, h8, h8_, h7_, h9, h10, h11, h11_, h10_, h13_, h13__, h13q, h15_, h15__, h15q, h16, h16_]; done) | (simp [h2_, h2__, h2q, h4, h4_, h5, h5_, h6, h7, h8, h8_, h7_, h9, h10, h11, h11_, h10_, h13_, h13__, h13q, h15_, h15__, h15q, h16, h16_]; omega)) ?_
                  refine AW.skip ?_
                  refine hK699 _ _ _ ?_
                  refine AW.region mixed [] [none, none, none] (by kernel_rfl) fun G722 R722 hG722 hR722 => ?_
                  try simp [h2_, h2__, h2q, h4, h4_, h5, h5_, h6, h7, h8, h8_, h7_, h9, h10, h11, h11_, h10_, h13_, h13__, h13q, h15_, h15__, h15q, h16, h16_]
                  repeat' apply And.intro
                  any_goals (first | exact hG722 _ (by kernel_rfl) | refine hR722 _ _ _ ?_ | omega | (unfold maxLen; omega) | (simp [h2_, h2__, h2q, h4, h4_, h5, h5_, h6, h7, h8, h8_, h7_, h9, h10, h11, h11_, h10_, h13_, h13__, h13q, h15_, h15__, h15q, h16, h16_]; done) | (simp [h2_, h2__, h2q, h4, h4_, h5, h5_, h6, h7, h8, h8_, h7_, h9, h10, h11, h11_, h10_, h13_, h13__, h13q, h15_, h15__, h15q, h16, h16_]; omega))
                  refine hK673 _ _ _ ?_
                  refine Can.weak [(2, AV.ptr 0 0), (3, AV.ptr 1 0), (8, AV.int .i64 (IntKind.wrap .i64 (v7 + 1)))] [(0, .cells [AV.lst false false (List.map (AV.int .i64) v0), AV.lst false false (List.map api_Pin.av v1)]), (1, .cells [AV.lst false false (List.map (AV.int .i64) v2), AV.lst false false (List.map api_Pin.av v3)])] 4 (by simp [h2_, h2__, h2q, h4, h4_, h5, h5_, h6, h7, h8, h8_, h7_, h9, h10, h11, h11_, h10_, h13_, h13__, h13q, h15_, h15__, h15q, h16, h16_]) (by simp [h2_, h2__, h2q, h4, h4_, h5, h5_, h6, h7, h8, h8_, h7_, h9, h10, h11, h11_, h10_, h13_, h13__, h13q, h15_, h15__, h15q, h16, h16_]) (by simp) ?_
                  refine Can.ren (m := 0) h0 [(0, 0), (1, 1)] [(2, AV.ptr 0 0), (3, AV.ptr 1 0), (8, AV.int .i64 (IntKind.wrap .i64 (v7 + 1)))] [(0, .cells [AV.lst false false (List.map (AV.int .i64) v0), AV.lst false false (List.map api_Pin.av v1)]), (1, .cells [AV.lst false false (List.map (AV.int .i64) v2), AV.lst false false (List.map api_Pin.av v3)])] 2 (by decide) (by decide) (by decide) rfl (by simp [h2_, h2__, h2q, h4, h4_, h5, h5_, h6, h7, h8, h8_, h7_, h9, h10, h11, h11_, h10_, h13_, h13__, h13q, h15_, h15__, h15q, h16, h16_]) (by simp [h2_, h2__, h2q, h4, h4_, h5, h5_, h6, h7, h8, h8_, h7_, h9, h10, h11, h11_, h10_, h13_, h13__, h13q, h15_, h15__, h15q, h16, h16_]) ?_
                  exact Can.next (k' := n3) (IntKind.wrap .i64 (v7 + 1)) (by omega) hF (by simp [h2_, h2__, h2q, h4, h4_, h5, h5_, h6, h7, h8, h8_, h7_, h9, h10, h11, h11_, h10_, h13_, h13__, h13q, h15_, h15__, h15q, h16, h16_]) (by simp [h2_, h2__, h2q, h4, h4_, h5, h5_, h6, h7, h8, h8_, h7_, h9, h10, h11, h11_, h10_, h13_, h13__, h13q, h15_, h15__, h15q, h16, h16_]) (by simp)
          · replace hF := ite_f h5 hF
            have h5_ := h5
            try simp at h5_
            refine AW.condF (by decide) (by first | (simp [h2_, h2__, h2q, h4, h4_, h5, h5_]; done) | (simp [h2_, h2__, h2q, h4, h4_, h5, h5_]; omega)) ?_
            refine AW.exit ?_
            try simp
            refine hK573 _ _ _ ?_
            exact Can.join (()) hF (by simp [h2_, h2__, h2q, h4, h4_, h5, h5_]) (by simp [h2_, h2__, h2q, h4, h4_, h5, h5_]) (by simp)
        · replace hF := ite_f h4 hF
          have h4_ := h4
          try simp at h4_
          try simp [h2_, h2__, h2q, h4, h4_]
          repeat' apply And.intro
          any_goals (first | exact hG676 _ (by kernel_rfl) | refine hR676 _ _ _ ?_ | omega | (unfold maxLen; omega) | (simp [h2_, h2__, h2q, h4, h4_]; done) | (simp [h2_, h2__, h2q, h4, h4_]; omega))
          refine AW.wk [(2, AV.ptr 0 0), (3, AV.ptr 1 0), (8, AV.int .i64 v7), (62, AV.bool false)] [(0, .cells [AV.lst false false (List.map (AV.int .i64) v0), AV.lst false false (List.map api_Pin.av v1)]), (1, .cells [AV.lst false false (List.map (AV.int .i64) v2), AV.lst false false (List.map api_Pin.av v3)])] 2 (by simp [h2_, h2__, h2q, h4, h4_]) (by simp [h2_, h2__, h2q, h4, h4_]) (by simp) ?_
          refine AW.condF (by decide) (by simp [h2_, h2__, h2q, h4, h4_]) ?_
          refine AW.exit ?_
          try simp
          refine hK573 _ _ _ ?_
          exact Can.join (()) hF (by simp [h2_, h2__, h2q, h4, h4_]) (by simp [h2_, h2__, h2q, h4, h4_]) (by simp)
      · rintro ⟨⟩ hF
        try dsimp only at hF
        unfold ref23_Order.J2 at hF
        refine AW.seqR mixed [] [none, none, none, none, none, none, none, none] (by kernel_rfl) fun G572 R572 hG572 hR572 => ?_
        try simp [h2_, h2__, h2q]
        repeat' apply And.intro
        try any_goals (first | omega | (unfold maxLen; omega) | (simp [h2_, h2__, h2q]; done))
        obtain ⟨v6, h3, hF⟩ := bnd1_elim hF
        refine aCall_l (w_ref23_cmp k _ _ _ h3) (by simp) [] [] [] rfl (.cons (.same (by simp [h2_, h2__, h2q])) (.cons (.same (by simp [h2_, h2__, h2q])) .nil)) (by simp [h2_, h2__, h2q]) (by decide) (by simp) (by simp) (.inl rfl) (by simp) (by simp) ?_
        try simp [h2_, h2__, h2q]
        repeat' apply And.intro
        any_goals (first | exact hG572 _ (by kernel_rfl) | refine hR572 _ _ _ ?_ | omega | (unfold maxLen; omega) | (simp [h2_, h2__, h2q]; done) | (simp [h2_, h2__, h2q]; omega))
        refine AW.wk [(4, AV.int .i64 v6)] [] 2 (by simp [h2_, h2__, h2q]) (by simp [h2_, h2__, h2q]) (by simp) ?_
        simp only [Option.some.injEq] at hF
        subst hF
        refine AW.ret (hQ _ _ _ ?_ (matchO_0 ?_)).1
        · simp [Try.f78, h2_, h2__, h2q]
        · simp [h2_, h2__, h2q]
end Go.TF
