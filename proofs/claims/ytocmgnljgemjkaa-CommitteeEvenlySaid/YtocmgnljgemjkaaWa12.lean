/- Walks: the Go text computes the Lean functions (printed by a program of our own). -/
import Derived.Test.YtocmgnljgemjkaaPu
import Derived.Test.YtocmgnljgemjkaaAbsT
import Derived.Test.YtocmgnljgemjkaaWa0
import Derived.Test.YtocmgnljgemjkaaWa4
import Derived.Test.YtocmgnljgemjkaaWa6
import Derived.Test.YtocmgnljgemjkaaWa11
set_option linter.unusedVariables false
set_option linter.unusedSimpArgs false
set_option maxRecDepth 100000
namespace Go.TF
open Go Go.Abs Go.Proofs Go.Proofs.YtocmgnljgemjkaaT
set_option maxHeartbeats 4000000 in
theorem w_ref02_TakeInts (k : Nat) (v0 : (List Int)) (v1 : Int) (v2 : (List Int)) (v3 : (List Int)) (v4 : Bool) (hF : ref02_TakeInts k v0 v1 = some (v2, v3, v4)) :
    FCall Try.prog 82 [AV.lst false false (List.map (AV.int .u8) v0), AV.int .i64 v1] [] (AV.tup [AV.slc 0 0 1 v2.length false, AV.lst false false (List.map (AV.int .u8) v3), AV.bool v4]) [some (.grow (List.map (AV.int .i64) v2))] := by
  unfold ref02_TakeInts at hF
  refine FCall.enter Try.func82 rfl (by simp) (by decide) (by simp) (by simp) (by simp) (by simp) (by simp) ?_
  intro c0 w0 Q h0 hQ
  refine AW.wk [(0, AV.lst false false (List.map (AV.int .u8) v0)), (1, AV.int .i64 v1)] [] 0 (by simp) (by simp) (by simp) ?_
  refine AW.seqR mixed [] [none, none, none] (by kernel_rfl) fun G75 R75 hG75 hR75 => ?_
  try simp
  repeat' apply And.intro
  any_goals (first | exact hG75 _ (by kernel_rfl) | refine hR75 _ _ _ ?_ | omega | (unfold maxLen; omega) | (simp; done) | (simp; omega))
  refine AW.wk [(0, AV.lst false false (List.map (AV.int .u8) v0)), (1, AV.int .i64 v1)] [] 0 (by simp) (by simp) (by simp) ?_
  refine AW.seqR mixed [] [none, none, none, none, none, none, none, none, none] (by kernel_rfl) fun G76 R76 hG76 hR76 => ?_
  try simp
  repeat' apply And.intro
  try any_goals (first | omega | (unfold maxLen; omega) | (simp; done))
  obtain ⟨v5, v6, v7, h1, hF⟩ := bnd3_elim hF
  refine aCall_l (w_ref02_TakeInt k _ _ _ _ h1) (by simp) [] [] [] rfl (.cons (.same (by simp)) .nil) (by simp) (by decide) (by simp) (by simp) (.inl rfl) (by simp) (by simp) ?_
  try simp
  repeat' apply And.intro
  any_goals (first | exact hG76 _ (by kernel_rfl) | refine hR76 _ _ _ ?_ | omega | (unfold maxLen; omega) | (simp; done) | (simp; omega))
  refine AW.wk [(0, AV.slc 0 0 1 v6.length false), (1, AV.int .i64 v1), (7, AV.int .i64 v5), (8, AV.bool v7)] [(0, .grow (List.map (AV.int .u8) v6))] 1 (by simp) (by simp) (by simp) ?_
  refine AW.frz 0 (o := .grow (List.map (AV.int .u8) v6)) (by simp) rfl [(0, AV.lst false false (List.map (AV.int .u8) v6))] [] ⟨(.l (by simp) (by simp) (by simp) (by simp)), trivial⟩ trivial ?_
  refine AW.wk [(0, AV.lst false false (List.map (AV.int .u8) v6)), (1, AV.int .i64 v1), (7, AV.int .i64 v5), (8, AV.bool v7)] [] 1 (by simp) (by simp) (by simp) ?_
  refine AW.seq fun K82 hK82 => ?_
  refine AW.seqR mixed [] [none, none, none, some (22, false), some (22, false), none, none, some (26, false), some (26, false), some (26, false), none, none, some (31, false), some (31, false), some (31, false), some (31, false), some (31, false), none] (by kernel_rfl) fun G83 R83 hG83 hR83 => ?_
  by_cases h2 : (!v7) = true
  · replace hF := ite_t h2 hF
    have h2_ := h2
    try simp at h2_
    try simp [h2, h2_]
    repeat' apply And.intro
    any_goals (first | exact hG83 _ (by kernel_rfl) | refine hR83 _ _ _ ?_ | omega | (unfold maxLen; omega) | (simp [h2, h2_]; done) | (simp [h2, h2_]; omega))
    refine AW.wk [(0, AV.lst false false (List.map (AV.int .u8) v6)), (7, AV.int .i64 v5), (37, AV.bool true)] [] 1 (by simp [h2, h2_]) (by simp [h2, h2_]) (by simp) ?_
    refine AW.condT (by decide) (by simp [h2, h2_]) ?_
    refine AW.seqR mixed [] [none, none, none] (by kernel_rfl) fun G84 R84 hG84 hR84 => ?_
    try simp [h2, h2_]
    repeat' apply And.intro
    any_goals (first | exact hG84 _ (by kernel_rfl) | refine hR84 _ _ _ ?_ | omega | (unfold maxLen; omega) | (simp [h2, h2_]; done) | (simp [h2, h2_]; omega))
    refine AW.wk [(4, AV.lst true true (List.map (AV.int .i64) ([] : List Int))), (5, AV.lst true true (List.map (AV.int .u8) ([] : List Int))), (6, AV.bool false)] [] 1 (by simp [h2, h2_]) (by simp [h2, h2_]) (by simp) ?_
    refine AW.own' 4 1 true (by simp [h2, h2_]) (by decide) ?_
    refine AW.rnm (m := 0) h0 [(0, 1)] [(4, AV.slc 0 0 1 (([] : List Int).length) false), (5, AV.lst true true (List.map (AV.int .u8) ([] : List Int))), (6, AV.bool false)] [(0, .grow (List.map (AV.int .i64) ([] : List Int)))] 1 (by decide) (by decide) (by decide) rfl (by simp [h2, h2_]) (by simp [h2, h2_]) ?_
    refine AW.flg [(5, AV.lst false false (List.map (AV.int .u8) ([] : List Int)))] [] ⟨(.lst (by simp)), trivial⟩ trivial (by simp) ?_
    simp only [Option.some.injEq, Prod.mk.injEq] at hF
    obtain ⟨e0, e1, e2⟩ := hF
    subst e0 e1 e2
    refine AW.ret (hQ _ _ _ ?_ (matchO_0 ?_)).1
    · simp [Try.f82, h2, h2_]
    · simp [h2, h2_]
  · replace hF := ite_f h2 hF
    have h2_ := h2
    try simp at h2_
    by_cases h3 : v5 < 0
    · replace hF := ite_t h3 hF
      have h3_ := h3
      try simp at h3_
      try simp [h2, h2_, h3, h3_]
      repeat' apply And.intro
      any_goals (first | exact hG83 _ (by kernel_rfl) | refine hR83 _ _ _ ?_ | omega | (unfold maxLen; omega) | (simp [h2, h2_, h3, h3_]; done) | (simp [h2, h2_, h3, h3_]; omega))
      refine AW.wk [(0, AV.lst false false (List.map (AV.int .u8) v6)), (7, AV.int .i64 v5), (37, AV.bool true)] [] 1 (by simp [h2, h2_, h3, h3_]) (by simp [h2, h2_, h3, h3_]) (by simp) ?_
      refine AW.condT (by decide) (by simp [h2, h2_, h3, h3_]) ?_
      refine AW.seqR mixed [] [none, none, none] (by kernel_rfl) fun G85 R85 hG85 hR85 => ?_
      try simp [h2, h2_, h3, h3_]
      repeat' apply And.intro
      any_goals (first | exact hG85 _ (by kernel_rfl) | refine hR85 _ _ _ ?_ | omega | (unfold maxLen; omega) | (simp [h2, h2_, h3, h3_]; done) | (simp [h2, h2_, h3, h3_]; omega))
      refine AW.wk [(4, AV.lst true true (List.map (AV.int .i64) ([] : List Int))), (5, AV.lst true true (List.map (AV.int .u8) ([] : List Int))), (6, AV.bool false)] [] 1 (by simp [h2, h2_, h3, h3_]) (by simp [h2, h2_, h3, h3_]) (by simp) ?_
      refine AW.own' 4 1 true (by simp [h2, h2_, h3, h3_]) (by decide) ?_
      refine AW.rnm (m := 0) h0 [(0, 1)] [(4, AV.slc 0 0 1 (([] : List Int).length) false), (5, AV.lst true true (List.map (AV.int .u8) ([] : List Int))), (6, AV.bool false)] [(0, .grow (List.map (AV.int .i64) ([] : List Int)))] 1 (by decide) (by decide) (by decide) rfl (by simp [h2, h2_, h3, h3_]) (by simp [h2, h2_, h3, h3_]) ?_
      refine AW.flg [(5, AV.lst false false (List.map (AV.int .u8) ([] : List Int)))] [] ⟨(.lst (by simp)), trivial⟩ trivial (by simp) ?_
      simp only [Option.some.injEq, Prod.mk.injEq] at hF
      obtain ⟨e0, e1, e2⟩ := hF
      subst e0 e1 e2
      refine AW.ret (hQ _ _ _ ?_ (matchO_0 ?_)).1
      · simp [Try.f82, h2, h2_, h3, h3_]
      · simp [h2, h2_, h3, h3_]
    · replace hF := ite_f h3 hF
      have h3_ := h3
      try simp at h3_
      by_cases h4 : v1 < v5
      · replace hF := ite_t h4 hF
        have h4_ := h4
        try simp at h4_
        try simp [h2, h2_, h3, h3_, h4, h4_]
        repeat' apply And.intro
        any_goals (first | exact hG83 _ (by kernel_rfl) | refine hR83 _ _ _ ?_ | omega | (unfold maxLen; omega) | (simp [h2, h2_, h3, h3_, h4, h4_]; done) | (simp [h2, h2_, h3, h3_, h4, h4_]; omega))
        refine AW.wk [(0, AV.lst false false (List.map (AV.int .u8) v6)), (7, AV.int .i64 v5), (37, AV.bool true)] [] 1 (by simp [h2, h2_, h3, h3_, h4, h4_]) (by simp [h2, h2_, h3, h3_, h4, h4_]) (by simp) ?_
        refine AW.condT (by decide) (by simp [h2, h2_, h3, h3_, h4, h4_]) ?_
        refine AW.seqR mixed [] [none, none, none] (by kernel_rfl) fun G86 R86 hG86 hR86 => ?_
        try simp [h2, h2_, h3, h3_, h4, h4_]
        repeat' apply And.intro
        any_goals (first | exact hG86 _ (by kernel_rfl) | refine hR86 _ _ _ ?_ | omega | (unfold maxLen; omega) | (simp [h2, h2_, h3, h3_, h4, h4_]; done) | (simp [h2, h2_, h3, h3_, h4, h4_]; omega))
        refine AW.wk [(4, AV.lst true true (List.map (AV.int .i64) ([] : List Int))), (5, AV.lst true true (List.map (AV.int .u8) ([] : List Int))), (6, AV.bool false)] [] 1 (by simp [h2, h2_, h3, h3_, h4, h4_]) (by simp [h2, h2_, h3, h3_, h4, h4_]) (by simp) ?_
        refine AW.own' 4 1 true (by simp [h2, h2_, h3, h3_, h4, h4_]) (by decide) ?_
        refine AW.rnm (m := 0) h0 [(0, 1)] [(4, AV.slc 0 0 1 (([] : List Int).length) false), (5, AV.lst true true (List.map (AV.int .u8) ([] : List Int))), (6, AV.bool false)] [(0, .grow (List.map (AV.int .i64) ([] : List Int)))] 1 (by decide) (by decide) (by decide) rfl (by simp [h2, h2_, h3, h3_, h4, h4_]) (by simp [h2, h2_, h3, h3_, h4, h4_]) ?_
        refine AW.flg [(5, AV.lst false false (List.map (AV.int .u8) ([] : List Int)))] [] ⟨(.lst (by simp)), trivial⟩ trivial (by simp) ?_
        simp only [Option.some.injEq, Prod.mk.injEq] at hF
        obtain ⟨e0, e1, e2⟩ := hF
        subst e0 e1 e2
        refine AW.ret (hQ _ _ _ ?_ (matchO_0 ?_)).1
        · simp [Try.f82, h2, h2_, h3, h3_, h4, h4_]
        · simp [h2, h2_, h3, h3_, h4, h4_]
      · replace hF := ite_f h4 hF
        have h4_ := h4
        try simp at h4_
        try simp [h2, h2_, h3, h3_, h4, h4_]
        repeat' apply And.intro
        any_goals (first | exact hG83 _ (by kernel_rfl) | refine hR83 _ _ _ ?_ | omega | (unfold maxLen; omega) | (simp [h2, h2_, h3, h3_, h4, h4_]; done) | (simp [h2, h2_, h3, h3_, h4, h4_]; omega))
        refine AW.wk [(0, AV.lst false false (List.map (AV.int .u8) v6)), (7, AV.int .i64 v5), (37, AV.bool (decide (IntKind.wrap .i64 (Int.tdiv (v6.length : Int) 8) < v5)))] [] 1 (by simp [h2, h2_, h3, h3_, h4, h4_]) (by simp [h2, h2_, h3, h3_, h4, h4_]) (by simp) ?_
        by_cases h5 : IntKind.wrap .i64 (Int.tdiv (v6.length : Int) 8) < v5
        · replace hF := ite_t h5 hF
          have h5_ := h5
          try simp at h5_
          refine AW.condT (by decide) (by first | (simp [h2, h2_, h3, h3_, h4, h4_, h5, h5_]; done) | (simp [h2, h2_, h3, h3_, h4, h4_, h5, h5_]; omega)) ?_
          refine AW.seqR mixed [] [none, none, none] (by kernel_rfl) fun G87 R87 hG87 hR87 => ?_
          try simp [h2, h2_, h3, h3_, h4, h4_, h5, h5_]
          repeat' apply And.intro
          any_goals (first | exact hG87 _ (by kernel_rfl) | refine hR87 _ _ _ ?_ | omega | (unfold maxLen; omega) | (simp [h2, h2_, h3, h3_, h4, h4_, h5, h5_]; done) | (simp [h2, h2_, h3, h3_, h4, h4_, h5, h5_]; omega))
          refine AW.wk [(4, AV.lst true true (List.map (AV.int .i64) ([] : List Int))), (5, AV.lst true true (List.map (AV.int .u8) ([] : List Int))), (6, AV.bool false)] [] 1 (by simp [h2, h2_, h3, h3_, h4, h4_, h5, h5_]) (by simp [h2, h2_, h3, h3_, h4, h4_, h5, h5_]) (by simp) ?_
          refine AW.own' 4 1 true (by simp [h2, h2_, h3, h3_, h4, h4_, h5, h5_]) (by decide) ?_
          refine AW.rnm (m := 0) h0 [(0, 1)] [(4, AV.slc 0 0 1 (([] : List Int).length) false), (5, AV.lst true true (List.map (AV.int .u8) ([] : List Int))), (6, AV.bool false)] [(0, .grow (List.map (AV.int .i64) ([] : List Int)))] 1 (by decide) (by decide) (by decide) rfl (by simp [h2, h2_, h3, h3_, h4, h4_, h5, h5_]) (by simp [h2, h2_, h3, h3_, h4, h4_, h5, h5_]) ?_
          refine AW.flg [(5, AV.lst false false (List.map (AV.int .u8) ([] : List Int)))] [] ⟨(.lst (by simp)), trivial⟩ trivial (by simp) ?_
          simp only [Option.some.injEq, Prod.mk.injEq] at hF
          obtain ⟨e0, e1, e2⟩ := hF
          subst e0 e1 e2
          refine AW.ret (hQ _ _ _ ?_ (matchO_0 ?_)).1
          · simp [Try.f82, h2, h2_, h3, h3_, h4, h4_, h5, h5_]
          · simp [h2, h2_, h3, h3_, h4, h4_, h5, h5_]
        · replace hF := ite_f h5 hF
          have h5_ := h5
          try simp at h5_
          refine AW.condF (by decide) (by first | (simp [h2, h2_, h3, h3_, h4, h4_, h5, h5_]; done) | (simp [h2, h2_, h3, h3_, h4, h4_, h5, h5_]; omega)) ?_
          refine AW.skip ?_
          refine hK82 _ _ _ ?_
          refine AW.seqR mixed [] [none] (by kernel_rfl) fun G88 R88 hG88 hR88 => ?_
          try simp [h2, h2_, h3, h3_, h4, h4_, h5, h5_]
          repeat' apply And.intro
          any_goals (first | exact hG88 _ (by kernel_rfl) | refine hR88 _ _ _ ?_ | omega | (unfold maxLen; omega) | (simp [h2, h2_, h3, h3_, h4, h4_, h5, h5_]; done) | (simp [h2, h2_, h3, h3_, h4, h4_, h5, h5_]; omega))
          refine AW.wk [(0, AV.lst false false (List.map (AV.int .u8) v6)), (7, AV.int .i64 v5), (9, AV.lst true true (List.map (AV.int .i64) ([] : List Int)))] [] 1 (by simp [h2, h2_, h3, h3_, h4, h4_, h5, h5_]) (by simp [h2, h2_, h3, h3_, h4, h4_, h5, h5_]) (by simp) ?_
          refine AW.seq fun K118 hK118 => ?_
          refine AW.seqR mixed [] [none] (by kernel_rfl) fun G119 R119 hG119 hR119 => ?_
          try simp [h2, h2_, h3, h3_, h4, h4_, h5, h5_]
          repeat' apply And.intro
          any_goals (first | exact hG119 _ (by kernel_rfl) | refine hR119 _ _ _ ?_ | omega | (unfold maxLen; omega) | (simp [h2, h2_, h3, h3_, h4, h4_, h5, h5_]; done) | (simp [h2, h2_, h3, h3_, h4, h4_, h5, h5_]; omega))
          refine AW.wk [(0, AV.lst false false (List.map (AV.int .u8) v6)), (7, AV.int .i64 v5), (9, AV.lst true true (List.map (AV.int .i64) ([] : List Int))), (10, AV.int .i64 0)] [] 1 (by simp [h2, h2_, h3, h3_, h4, h4_, h5, h5_]) (by simp [h2, h2_, h3, h3_, h4, h4_, h5, h5_]) (by simp) ?_
          refine AW.block ?_
          refine AW.own' 9 1 true (by simp [h2, h2_, h3, h3_, h4, h4_, h5, h5_]) (by decide) ?_
          refine AW.rnm (m := 0) h0 [(0, 1)] [(0, AV.lst false false (List.map (AV.int .u8) v6)), (7, AV.int .i64 v5), (9, AV.slc 0 0 1 (([] : List Int).length) false), (10, AV.int .i64 0)] [(0, .grow (List.map (AV.int .i64) ([] : List Int)))] 1 (by decide) (by decide) (by decide) rfl (by simp [h2, h2_, h3, h3_, h4, h4_, h5, h5_]) (by simp [h2, h2_, h3, h3_, h4, h4_, h5, h5_]) ?_
          refine AW.loopF (α := ((List Int) × Int × (List Int))) (fun n (v8, v9, v10) => ref02_TakeInts.L1 k v5 n v8 v9 v10 = some (v2, v3, v4)) (fun (v8, v9, v10) => [(0, AV.lst false false (List.map (AV.int .u8) v8)), (7, AV.int .i64 v5), (9, AV.slc 0 0 1 v10.length false), (10, AV.int .i64 v9)]) (fun (v8, v9, v10) => [(0, .grow (List.map (AV.int .i64) v10))]) 1 k ((v6, 0, ([] : List Int))) hF (by simp [h2, h2_, h3, h3_, h4, h4_, h5, h5_]) (by simp [h2, h2_, h3, h3_, h4, h4_, h5, h5_]) (by simp) ?_
          rintro (_|n1) ⟨v8, v9, v10⟩ hF K138 hK138
          · try dsimp only at hF
            rw [ref02_TakeInts.L1] at hF; cases hF
          try dsimp only at hF
          rw [ref02_TakeInts.L1] at hF
          refine AW.seq fun K140 hK140 => ?_
          refine AW.seqR mixed [] [none, none, none] (by kernel_rfl) fun G141 R141 hG141 hR141 => ?_
          try simp [h2, h2_, h3, h3_, h4, h4_, h5, h5_]
          repeat' apply And.intro
          any_goals (first | exact hG141 _ (by kernel_rfl) | refine hR141 _ _ _ ?_ | omega | (unfold maxLen; omega) | (simp [h2, h2_, h3, h3_, h4, h4_, h5, h5_]; done) | (simp [h2, h2_, h3, h3_, h4, h4_, h5, h5_]; omega))
          refine AW.wk [(0, AV.lst false false (List.map (AV.int .u8) v8)), (7, AV.int .i64 v5), (9, AV.slc 0 0 1 v10.length false), (10, AV.int .i64 v9), (40, AV.bool (decide (v9 < v5)))] [(0, .grow (List.map (AV.int .i64) v10))] 1 (by simp [h2, h2_, h3, h3_, h4, h4_, h5, h5_]) (by simp [h2, h2_, h3, h3_, h4, h4_, h5, h5_]) (by simp) ?_
          by_cases h6 : v9 < v5
          · replace hF := ite_t h6 hF
            have h6_ := h6
            try simp at h6_
            refine AW.condT (by decide) (by first | (simp [h2, h2_, h3, h3_, h4, h4_, h5, h5_, h6, h6_]; done) | (simp [h2, h2_, h3, h3_, h4, h4_, h5, h5_, h6, h6_]; omega)) ?_
            refine AW.skip ?_
            refine hK140 _ _ _ ?_
            refine AW.seq fun K144 hK144 => ?_
            refine AW.block ?_
            refine AW.seqR mixed [] [none, none, none, none, none, none, none, none, none] (by kernel_rfl) fun G145 R145 hG145 hR145 => ?_
            try simp [h2, h2_, h3, h3_, h4, h4_, h5, h5_, h6, h6_]
            repeat' apply And.intro
            try any_goals (first | omega | (unfold maxLen; omega) | (simp [h2, h2_, h3, h3_, h4, h4_, h5, h5_, h6, h6_]; done))
            obtain ⟨v11, v12, v13, h7, hF⟩ := bnd3_elim hF
            refine aCall_l (w_ref02_TakeInt k _ _ _ _ h7) (by simp) [] [] [] rfl (.cons (.same (by simp [h2, h2_, h3, h3_, h4, h4_, h5, h5_, h6, h6_])) .nil) (by simp [h2, h2_, h3, h3_, h4, h4_, h5, h5_, h6, h6_]) (by decide) (by simp) (by simp) (.inl rfl) (by simp) (by simp) ?_
            try simp [h2, h2_, h3, h3_, h4, h4_, h5, h5_, h6, h6_]
            repeat' apply And.intro
            any_goals (first | exact hG145 _ (by kernel_rfl) | refine hR145 _ _ _ ?_ | omega | (unfold maxLen; omega) | (simp [h2, h2_, h3, h3_, h4, h4_, h5, h5_, h6, h6_]; done) | (simp [h2, h2_, h3, h3_, h4, h4_, h5, h5_, h6, h6_]; omega))
            refine AW.wk [(7, AV.int .i64 v5), (9, AV.slc 0 0 1 v10.length false), (10, AV.int .i64 v9), (11, AV.int .i64 v11), (12, AV.slc 1 0 1 v12.length false)] [(0, .grow (List.map (AV.int .i64) v10)), (1, .grow (List.map (AV.int .u8) v12))] 2 (by simp [h2, h2_, h3, h3_, h4, h4_, h5, h5_, h6, h6_]) (by simp [h2, h2_, h3, h3_, h4, h4_, h5, h5_, h6, h6_]) (by simp) ?_
            refine AW.frz 1 (o := .grow (List.map (AV.int .u8) v12)) (by simp [h2, h2_, h3, h3_, h4, h4_, h5, h5_, h6, h6_]) rfl [(12, AV.lst false false (List.map (AV.int .u8) v12))] [] ⟨(.l (by simp) (by simp) (by simp) (by simp)), trivial⟩ trivial ?_
            refine AW.wk [(7, AV.int .i64 v5), (9, AV.slc 0 0 1 v10.length false), (10, AV.int .i64 v9), (11, AV.int .i64 v11), (12, AV.lst false false (List.map (AV.int .u8) v12))] [(0, .grow (List.map (AV.int .i64) v10))] 2 (by simp [h2, h2_, h3, h3_, h4, h4_, h5, h5_, h6, h6_]) (by simp [h2, h2_, h3, h3_, h4, h4_, h5, h5_, h6, h6_]) (by simp) ?_
            refine AW.region mixed [] [none, none, none, none, none, none, none] (by kernel_rfl) fun G146 R146 hG146 hR146 => ?_
            obtain ⟨h8, hF⟩ := chk_elim hF
            have h8_ := h8
            try simp at h8_
            try simp [h2, h2_, h3, h3_, h4, h4_, h5, h5_, h6, h6_, h8]
            repeat' apply And.intro
            any_goals (first | exact hG146 _ (by kernel_rfl) | refine hR146 _ _ _ ?_ | omega | (unfold maxLen; omega) | (simp [h2, h2_, h3, h3_, h4, h4_, h5, h5_, h6, h6_, h8]; done) | (simp [h2, h2_, h3, h3_, h4, h4_, h5, h5_, h6, h6_, h8]; omega))
            refine hK144 _ _ _ ?_
            refine AW.wk [(0, AV.lst false false (List.map (AV.int .u8) v12)), (7, AV.int .i64 v5), (9, AV.slc 2 0 1 ((v10 ++ ([v11] : List Int)).length) false), (10, AV.int .i64 v9)] [(2, .grow (List.map (AV.int .i64) (v10 ++ ([v11] : List Int))))] 3 (by simp [h2, h2_, h3, h3_, h4, h4_, h5, h5_, h6, h6_, h8]) (by simp [h2, h2_, h3, h3_, h4, h4_, h5, h5_, h6, h6_, h8]) (by simp) ?_
            refine AW.region mixed [] [none, none, none] (by kernel_rfl) fun G147 R147 hG147 hR147 => ?_
            try simp [h2, h2_, h3, h3_, h4, h4_, h5, h5_, h6, h6_, h8]
            repeat' apply And.intro
            any_goals (first | exact hG147 _ (by kernel_rfl) | refine hR147 _ _ _ ?_ | omega | (unfold maxLen; omega) | (simp [h2, h2_, h3, h3_, h4, h4_, h5, h5_, h6, h6_, h8]; done) | (simp [h2, h2_, h3, h3_, h4, h4_, h5, h5_, h6, h6_, h8]; omega))
            refine hK138 _ _ _ ?_
            refine Can.weak [(0, AV.lst false false (List.map (AV.int .u8) v12)), (7, AV.int .i64 v5), (9, AV.slc 2 0 1 ((v10 ++ ([v11] : List Int)).length) false), (10, AV.int .i64 (IntKind.wrap .i64 (v9 + 1)))] [(2, .grow (List.map (AV.int .i64) (v10 ++ ([v11] : List Int))))] 3 (by simp [h2, h2_, h3, h3_, h4, h4_, h5, h5_, h6, h6_, h8]) (by simp [h2, h2_, h3, h3_, h4, h4_, h5, h5_, h6, h6_, h8]) (by simp) ?_
            refine Can.ren (m := 0) h0 [(0, 2)] [(0, AV.lst false false (List.map (AV.int .u8) v12)), (7, AV.int .i64 v5), (9, AV.slc 0 0 1 ((v10 ++ ([v11] : List Int)).length) false), (10, AV.int .i64 (IntKind.wrap .i64 (v9 + 1)))] [(0, .grow (List.map (AV.int .i64) (v10 ++ ([v11] : List Int))))] 1 (by decide) (by decide) (by decide) rfl (by simp [h2, h2_, h3, h3_, h4, h4_, h5, h5_, h6, h6_, h8]) (by simp [h2, h2_, h3, h3_, h4, h4_, h5, h5_, h6, h6_, h8]) ?_
            exact Can.next (k' := n1) ((v12, IntKind.wrap .i64 (v9 + 1), v10 ++ ([v11] : List Int))) (by omega) hF (by simp [h2, h2_, h3, h3_, h4, h4_, h5, h5_, h6, h6_, h8]) (by simp [h2, h2_, h3, h3_, h4, h4_, h5, h5_, h6, h6_, h8]) (by simp)
          · replace hF := ite_f h6 hF
            have h6_ := h6
            try simp at h6_
            refine AW.condF (by decide) (by first | (simp [h2, h2_, h3, h3_, h4, h4_, h5, h5_, h6, h6_]; done) | (simp [h2, h2_, h3, h3_, h4, h4_, h5, h5_, h6, h6_]; omega)) ?_
            refine AW.exit ?_
            try simp
            refine hK118 _ _ _ ?_
            refine AW.seqR mixed [] [none, none, none, none, none] (by kernel_rfl) fun G148 R148 hG148 hR148 => ?_
            try simp [h2, h2_, h3, h3_, h4, h4_, h5, h5_, h6, h6_]
            repeat' apply And.intro
            any_goals (first | exact hG148 _ (by kernel_rfl) | refine hR148 _ _ _ ?_ | omega | (unfold maxLen; omega) | (simp [h2, h2_, h3, h3_, h4, h4_, h5, h5_, h6, h6_]; done) | (simp [h2, h2_, h3, h3_, h4, h4_, h5, h5_, h6, h6_]; omega))
            refine AW.wk [(4, AV.slc 0 0 1 v10.length false), (5, AV.lst false false (List.map (AV.int .u8) v8)), (6, AV.bool true)] [(0, .grow (List.map (AV.int .i64) v10))] 1 (by simp [h2, h2_, h3, h3_, h4, h4_, h5, h5_, h6, h6_]) (by simp [h2, h2_, h3, h3_, h4, h4_, h5, h5_, h6, h6_]) (by simp) ?_
            simp only [Option.some.injEq, Prod.mk.injEq] at hF
            obtain ⟨e0, e1, e2⟩ := hF
            subst e0 e1 e2
            refine AW.ret (hQ _ _ _ ?_ (matchO_0 ?_)).1
            · simp [Try.f82, h2, h2_, h3, h3_, h4, h4_, h5, h5_, h6, h6_]
            · simp [h2, h2_, h3, h3_, h4, h4_, h5, h5_, h6, h6_]
set_option maxHeartbeats 4000000 in
theorem w_law02_taken (k : Nat) (v0 : (List Int)) (v1 : Int) (v2 : Bool) (hF : law02_taken k v0 v1 = some v2) :
    FCall Try.prog 45 [AV.lst false false (List.map (AV.int .u8) v0), AV.int .i64 v1] [] (AV.bool v2) [] := by
  unfold law02_taken at hF
  refine FCall.enter Try.func45 rfl (by simp) (by decide) (by simp) (by simp) (by simp) (by simp) (by simp) ?_
  intro c0 w0 Q h0 hQ
  refine AW.wk [(0, AV.lst false false (List.map (AV.int .u8) v0)), (1, AV.int .i64 v1)] [] 0 (by simp) (by simp) (by simp) ?_
  refine AW.seqR mixed [] [none] (by kernel_rfl) fun G9 R9 hG9 hR9 => ?_
  try simp
  repeat' apply And.intro
  any_goals (first | exact hG9 _ (by kernel_rfl) | refine hR9 _ _ _ ?_ | omega | (unfold maxLen; omega) | (simp; done) | (simp; omega))
  refine AW.wk [(0, AV.lst false false (List.map (AV.int .u8) v0)), (1, AV.int .i64 v1)] [] 0 (by simp) (by simp) (by simp) ?_
  refine AW.seqR mixed [] [none, none, none, none, none, none, none, none, none] (by kernel_rfl) fun G10 R10 hG10 hR10 => ?_
  try simp
  repeat' apply And.intro
  try any_goals (first | omega | (unfold maxLen; omega) | (simp; done))
  obtain ⟨v3, v4, v5, h1, hF⟩ := bnd3_elim hF
  refine aCall_l (w_wire_TakeInt k _ _ _ _ h1) (by simp) [] [] [] rfl (.cons (.same (by simp)) .nil) (by simp) (by decide) (by simp) (by simp) (.inl rfl) (by simp) (by simp) ?_
  try simp
  repeat' apply And.intro
  any_goals (first | exact hG10 _ (by kernel_rfl) | refine hR10 _ _ _ ?_ | omega | (unfold maxLen; omega) | (simp; done) | (simp; omega))
  refine AW.wk [(0, AV.lst false false (List.map (AV.int .u8) v0)), (1, AV.int .i64 v1), (5, AV.int .i64 v3), (6, AV.slc 0 0 1 v4.length false), (7, AV.bool v5)] [(0, .grow (List.map (AV.int .u8) v4))] 1 (by simp) (by simp) (by simp) ?_
  refine AW.frz 0 (o := .grow (List.map (AV.int .u8) v4)) (by simp) rfl [(6, AV.lst false false (List.map (AV.int .u8) v4))] [] ⟨(.l (by simp) (by simp) (by simp) (by simp)), trivial⟩ trivial ?_
  refine AW.wk [(0, AV.lst false false (List.map (AV.int .u8) v0)), (1, AV.int .i64 v1), (5, AV.int .i64 v3), (6, AV.lst false false (List.map (AV.int .u8) v4)), (7, AV.bool v5)] [] 1 (by simp) (by simp) (by simp) ?_
  refine AW.seqR mixed [] [none, none, none, none, none, none, none, none, none] (by kernel_rfl) fun G11 R11 hG11 hR11 => ?_
  try simp
  repeat' apply And.intro
  try any_goals (first | omega | (unfold maxLen; omega) | (simp; done))
  obtain ⟨v6, v7, v8, h2, hF⟩ := bnd3_elim hF
  refine aCall_l (w_ref02_TakeInt k _ _ _ _ h2) (by simp) [] [] [] rfl (.cons (.same (by simp)) .nil) (by simp) (by decide) (by simp) (by simp) (.inl rfl) (by simp) (by simp) ?_
  try simp
  repeat' apply And.intro
  any_goals (first | exact hG11 _ (by kernel_rfl) | refine hR11 _ _ _ ?_ | omega | (unfold maxLen; omega) | (simp; done) | (simp; omega))
  refine AW.wk [(0, AV.lst false false (List.map (AV.int .u8) v0)), (1, AV.int .i64 v1), (5, AV.int .i64 v3), (6, AV.lst false false (List.map (AV.int .u8) v4)), (7, AV.bool v5), (8, AV.int .i64 v6), (9, AV.slc 1 0 1 v7.length false), (10, AV.bool v8)] [(1, .grow (List.map (AV.int .u8) v7))] 2 (by simp) (by simp) (by simp) ?_
  refine AW.frz 1 (o := .grow (List.map (AV.int .u8) v7)) (by simp) rfl [(9, AV.lst false false (List.map (AV.int .u8) v7))] [] ⟨(.l (by simp) (by simp) (by simp) (by simp)), trivial⟩ trivial ?_
  refine AW.wk [(0, AV.lst false false (List.map (AV.int .u8) v0)), (1, AV.int .i64 v1), (5, AV.int .i64 v3), (6, AV.lst false false (List.map (AV.int .u8) v4)), (7, AV.bool v5), (8, AV.int .i64 v6), (9, AV.lst false false (List.map (AV.int .u8) v7)), (10, AV.bool v8)] [] 2 (by simp) (by simp) (by simp) ?_
  refine AW.seqR mixed [] [none, none, none, none, none, none, none, none, none, none] (by kernel_rfl) fun G12 R12 hG12 hR12 => ?_
  try simp
  repeat' apply And.intro
  try any_goals (first | omega | (unfold maxLen; omega) | (simp; done))
  obtain ⟨v9, v10, v11, h3, hF⟩ := bnd3_elim hF
  refine aCall_l (w_wire_TakeText k _ _ _ _ _ h3) (by simp) [] [] [] rfl (.cons (.same (by simp)) (.cons (.same (by simp)) .nil)) (by simp) (by decide) (by simp) (by simp) (.inl rfl) (by simp) (by simp) ?_
  try simp
  repeat' apply And.intro
  any_goals (first | exact hG12 _ (by kernel_rfl) | refine hR12 _ _ _ ?_ | omega | (unfold maxLen; omega) | (simp; done) | (simp; omega))
  refine AW.wk [(0, AV.lst false false (List.map (AV.int .u8) v0)), (1, AV.int .i64 v1), (5, AV.int .i64 v3), (6, AV.lst false false (List.map (AV.int .u8) v4)), (7, AV.bool v5), (8, AV.int .i64 v6), (9, AV.lst false false (List.map (AV.int .u8) v7)), (10, AV.bool v8), (11, AV.str v9), (12, AV.lst false false (List.map (AV.int .u8) v10)), (13, AV.bool v11)] [] 2 (by simp) (by simp) (by simp) ?_
  refine AW.seqR mixed [] [none, none, none, none, none, none, none, none, none, none] (by kernel_rfl) fun G13 R13 hG13 hR13 => ?_
  try simp
  repeat' apply And.intro
  try any_goals (first | omega | (unfold maxLen; omega) | (simp; done))
  obtain ⟨v12, v13, v14, h4, hF⟩ := bnd3_elim hF
  refine aCall_l (w_ref02_TakeText k _ _ _ _ _ h4) (by simp) [] [] [] rfl (.cons (.same (by simp)) (.cons (.same (by simp)) .nil)) (by simp) (by decide) (by simp) (by simp) (.inl rfl) (by simp) (by simp) ?_
  try simp
  repeat' apply And.intro
  any_goals (first | exact hG13 _ (by kernel_rfl) | refine hR13 _ _ _ ?_ | omega | (unfold maxLen; omega) | (simp; done) | (simp; omega))
  refine AW.wk [(0, AV.lst false false (List.map (AV.int .u8) v0)), (1, AV.int .i64 v1), (5, AV.int .i64 v3), (6, AV.lst false false (List.map (AV.int .u8) v4)), (7, AV.bool v5), (8, AV.int .i64 v6), (9, AV.lst false false (List.map (AV.int .u8) v7)), (10, AV.bool v8), (11, AV.str v9), (12, AV.lst false false (List.map (AV.int .u8) v10)), (13, AV.bool v11), (14, AV.str v12), (15, AV.slc 2 0 1 v13.length false), (16, AV.bool v14)] [(2, .grow (List.map (AV.int .u8) v13))] 3 (by simp) (by simp) (by simp) ?_
  refine AW.frz 2 (o := .grow (List.map (AV.int .u8) v13)) (by simp) rfl [(15, AV.lst false false (List.map (AV.int .u8) v13))] [] ⟨(.l (by simp) (by simp) (by simp) (by simp)), trivial⟩ trivial ?_
  refine AW.wk [(0, AV.lst false false (List.map (AV.int .u8) v0)), (1, AV.int .i64 v1), (5, AV.int .i64 v3), (6, AV.lst false false (List.map (AV.int .u8) v4)), (7, AV.bool v5), (8, AV.int .i64 v6), (9, AV.lst false false (List.map (AV.int .u8) v7)), (10, AV.bool v8), (11, AV.str v9), (12, AV.lst false false (List.map (AV.int .u8) v10)), (13, AV.bool v11), (14, AV.str v12), (15, AV.lst false false (List.map (AV.int .u8) v13)), (16, AV.bool v14)] [] 3 (by simp) (by simp) (by simp) ?_
  refine AW.seqR mixed [] [none, none, none, none, none, none, none, none, none, none] (by kernel_rfl) fun G14 R14 hG14 hR14 => ?_
  try simp
  repeat' apply And.intro
  try any_goals (first | omega | (unfold maxLen; omega) | (simp; done))
  obtain ⟨v15, v16, v17, h5, hF⟩ := bnd3_elim hF
  refine aCall_l (w_wire_TakeInts k _ _ _ _ _ h5) (by simp) [] [] [] rfl (.cons (.same (by simp)) (.cons (.same (by simp)) .nil)) (by simp) (by decide) (by simp) (by simp) (.inl rfl) (by simp) (by simp) ?_
  try simp
  repeat' apply And.intro
  any_goals (first | exact hG14 _ (by kernel_rfl) | refine hR14 _ _ _ ?_ | omega | (unfold maxLen; omega) | (simp; done) | (simp; omega))
  refine AW.wk [(0, AV.lst false false (List.map (AV.int .u8) v0)), (1, AV.int .i64 v1), (5, AV.int .i64 v3), (6, AV.lst false false (List.map (AV.int .u8) v4)), (7, AV.bool v5), (8, AV.int .i64 v6), (9, AV.lst false false (List.map (AV.int .u8) v7)), (10, AV.bool v8), (11, AV.str v9), (12, AV.lst false false (List.map (AV.int .u8) v10)), (13, AV.bool v11), (14, AV.str v12), (15, AV.lst false false (List.map (AV.int .u8) v13)), (16, AV.bool v14), (17, AV.slc 3 0 1 v15.length false), (18, AV.lst false false (List.map (AV.int .u8) v16)), (19, AV.bool v17)] [(3, .grow (List.map (AV.int .i64) v15))] 4 (by simp) (by simp) (by simp) ?_
  refine AW.frz 3 (o := .grow (List.map (AV.int .i64) v15)) (by simp) rfl [(17, AV.lst false false (List.map (AV.int .i64) v15))] [] ⟨(.l (by simp) (by simp) (by simp) (by simp)), trivial⟩ trivial ?_
  refine AW.wk [(0, AV.lst false false (List.map (AV.int .u8) v0)), (1, AV.int .i64 v1), (5, AV.int .i64 v3), (6, AV.lst false false (List.map (AV.int .u8) v4)), (7, AV.bool v5), (8, AV.int .i64 v6), (9, AV.lst false false (List.map (AV.int .u8) v7)), (10, AV.bool v8), (11, AV.str v9), (12, AV.lst false false (List.map (AV.int .u8) v10)), (13, AV.bool v11), (14, AV.str v12), (15, AV.lst false false (List.map (AV.int .u8) v13)), (16, AV.bool v14), (17, AV.lst false false (List.map (AV.int .i64) v15)), (18, AV.lst false false (List.map (AV.int .u8) v16)), (19, AV.bool v17)] [] 4 (by simp) (by simp) (by simp) ?_
  refine AW.seqR mixed [] [none, none, none, none, none, none, none, none, none, none] (by kernel_rfl) fun G15 R15 hG15 hR15 => ?_
  try simp
  repeat' apply And.intro
  try any_goals (first | omega | (unfold maxLen; omega) | (simp; done))
  obtain ⟨v18, v19, v20, h6, hF⟩ := bnd3_elim hF
  refine aCall_l (w_ref02_TakeInts k _ _ _ _ _ h6) (by simp) [] [] [] rfl (.cons (.same (by simp)) (.cons (.same (by simp)) .nil)) (by simp) (by decide) (by simp) (by simp) (.inl rfl) (by simp) (by simp) ?_
  try simp
  repeat' apply And.intro
  any_goals (first | exact hG15 _ (by kernel_rfl) | refine hR15 _ _ _ ?_ | omega | (unfold maxLen; omega) | (simp; done) | (simp; omega))
  refine AW.wk [(5, AV.int .i64 v3), (6, AV.lst false false (List.map (AV.int .u8) v4)), (7, AV.bool v5), (8, AV.int .i64 v6), (9, AV.lst false false (List.map (AV.int .u8) v7)), (10, AV.bool v8), (11, AV.str v9), (12, AV.lst false false (List.map (AV.int .u8) v10)), (13, AV.bool v11), (14, AV.str v12), (15, AV.lst false false (List.map (AV.int .u8) v13)), (16, AV.bool v14), (17, AV.lst false false (List.map (AV.int .i64) v15)), (18, AV.lst false false (List.map (AV.int .u8) v16)), (19, AV.bool v17), (20, AV.slc 4 0 1 v18.length false), (21, AV.lst false false (List.map (AV.int .u8) v19)), (22, AV.bool v20)] [(4, .grow (List.map (AV.int .i64) v18))] 5 (by simp) (by simp) (by simp) ?_
  refine AW.frz 4 (o := .grow (List.map (AV.int .i64) v18)) (by simp) rfl [(20, AV.lst false false (List.map (AV.int .i64) v18))] [] ⟨(.l (by simp) (by simp) (by simp) (by simp)), trivial⟩ trivial ?_
  refine AW.wk [(5, AV.int .i64 v3), (6, AV.lst false false (List.map (AV.int .u8) v4)), (7, AV.bool v5), (8, AV.int .i64 v6), (9, AV.lst false false (List.map (AV.int .u8) v7)), (10, AV.bool v8), (11, AV.str v9), (12, AV.lst false false (List.map (AV.int .u8) v10)), (13, AV.bool v11), (14, AV.str v12), (15, AV.lst false false (List.map (AV.int .u8) v13)), (16, AV.bool v14), (17, AV.lst false false (List.map (AV.int .i64) v15)), (18, AV.lst false false (List.map (AV.int .u8) v16)), (19, AV.bool v17), (20, AV.lst false false (List.map (AV.int .i64) v18)), (21, AV.lst false false (List.map (AV.int .u8) v19)), (22, AV.bool v20)] [] 5 (by simp) (by simp) (by simp) ?_
  refine AW.seqR mixed [] [none, none, none, none, some (66, true), some (66, true), some (66, true), some (66, true), some (66, true), none, none, some (73, true), some (73, true), some (73, true), none, none, some (78, true), some (78, true), some (78, true), none, none, some (83, true), some (83, true), some (83, true), some (83, true), some (83, true), none, none, some (90, true), some (90, true), some (90, true), none, none, some (95, true), some (95, true), some (95, true), none, none, some (100, true), some (100, true), some (100, true), some (100, true), some (100, true), none, none, some (107, true), some (107, true), some (107, true), none, none] (by kernel_rfl) fun G16 R16 hG16 hR16 => ?_
  by_cases h7 : v3 = v6
  · replace hF := ite_t h7 hF
    have h7q : v3 = v6 := h7
    have h7_ := eqb_t h7q
    have h7__ := neb_f h7q
    by_cases h8 : (strEq (ofI v4) (ofI v7)) = true
    · replace hF := ite_t h8 hF
      have h8_ := h8
      try simp at h8_
      by_cases h9 : (v5 == v8) = true
      · replace hF := ite_t h9 hF
        have h9_ := h9
        try simp at h9_
        by_cases h10 : (strEq v9 v12) = true
        · replace hF := ite_t h10 hF
          have h10_ := h10
          try simp at h10_
          by_cases h11 : (strEq (ofI v10) (ofI v13)) = true
          · replace hF := ite_t h11 hF
            have h11_ := h11
            try simp at h11_
            by_cases h12 : (v11 == v14) = true
            · replace hF := ite_t h12 hF
              have h12_ := h12
              try simp at h12_
              try simp [h7_, h7__, h8, h8_, h9, h9_, h10, h10_, h11, h11_, h12, h12_]
              repeat' apply And.intro
              try any_goals (first | omega | (unfold maxLen; omega) | (simp [h7_, h7__, h8, h8_, h9, h9_, h10, h10_, h11, h11_, h12, h12_]; done))
              obtain ⟨v21, h13, hF⟩ := bnd1_elim hF
              refine aCall_l (w_law02_sameInts k _ _ _ h13) (by simp) [] [] [] rfl (.cons (.same (by simp [h7_, h7__, h8, h8_, h9, h9_, h10, h10_, h11, h11_, h12, h12_])) (.cons (.same (by simp [h7_, h7__, h8, h8_, h9, h9_, h10, h10_, h11, h11_, h12, h12_])) .nil)) (by simp [h7_, h7__, h8, h8_, h9, h9_, h10, h10_, h11, h11_, h12, h12_]) (by decide) (by simp) (by simp) (.inl rfl) (by simp) (by simp) ?_
              by_cases h14 : v21 = true
              · replace hF := ite_t h14 hF
                have h14_ := h14
                try simp at h14_
                by_cases h15 : (strEq (ofI v16) (ofI v19)) = true
                · replace hF := ite_t h15 hF
                  have h15_ := h15
                  try simp at h15_
                  try simp [h7_, h7__, h8, h8_, h9, h9_, h10, h10_, h11, h11_, h12, h12_, h14, h14_, h15, h15_]
                  repeat' apply And.intro
                  any_goals (first | exact hG16 _ (by kernel_rfl) | refine hR16 _ _ _ ?_ | omega | (unfold maxLen; omega) | (simp [h7_, h7__, h8, h8_, h9, h9_, h10, h10_, h11, h11_, h12, h12_, h14, h14_, h15, h15_]; done) | (simp [h7_, h7__, h8, h8_, h9, h9_, h10, h10_, h11, h11_, h12, h12_, h14, h14_, h15, h15_]; omega))
                  refine AW.wk [(4, AV.bool (v17 == v20))] [] 5 (by simp [h7_, h7__, h8, h8_, h9, h9_, h10, h10_, h11, h11_, h12, h12_, h14, h14_, h15, h15_]) (by simp [h7_, h7__, h8, h8_, h9, h9_, h10, h10_, h11, h11_, h12, h12_, h14, h14_, h15, h15_]) (by simp) ?_
                  simp only [Option.some.injEq] at hF
                  subst hF
                  refine AW.ret (hQ _ _ _ ?_ (matchO_0 ?_)).1
                  · simp [Try.f45, h7_, h7__, h8, h8_, h9, h9_, h10, h10_, h11, h11_, h12, h12_, h14, h14_, h15, h15_]
                  · simp [h7_, h7__, h8, h8_, h9, h9_, h10, h10_, h11, h11_, h12, h12_, h14, h14_, h15, h15_]
                · replace hF := ite_f h15 hF
                  have h15_ := h15
                  try simp at h15_
                  try simp [h7_, h7__, h8, h8_, h9, h9_, h10, h10_, h11, h11_, h12, h12_, h14, h14_, h15, h15_]
                  repeat' apply And.intro
                  any_goals (first | exact hG16 _ (by kernel_rfl) | refine hR16 _ _ _ ?_ | omega | (unfold maxLen; omega) | (simp [h7_, h7__, h8, h8_, h9, h9_, h10, h10_, h11, h11_, h12, h12_, h14, h14_, h15, h15_]; done) | (simp [h7_, h7__, h8, h8_, h9, h9_, h10, h10_, h11, h11_, h12, h12_, h14, h14_, h15, h15_]; omega))
                  refine AW.wk [(4, AV.bool false)] [] 5 (by simp [h7_, h7__, h8, h8_, h9, h9_, h10, h10_, h11, h11_, h12, h12_, h14, h14_, h15, h15_]) (by simp [h7_, h7__, h8, h8_, h9, h9_, h10, h10_, h11, h11_, h12, h12_, h14, h14_, h15, h15_]) (by simp) ?_
                  simp only [Option.some.injEq] at hF
                  subst hF
                  refine AW.ret (hQ _ _ _ ?_ (matchO_0 ?_)).1
                  · simp [Try.f45, h7_, h7__, h8, h8_, h9, h9_, h10, h10_, h11, h11_, h12, h12_, h14, h14_, h15, h15_]
                  · simp [h7_, h7__, h8, h8_, h9, h9_, h10, h10_, h11, h11_, h12, h12_, h14, h14_, h15, h15_]
              · replace hF := ite_f h14 hF
                have h14_ := h14
                try simp at h14_
                try simp [h7_, h7__, h8, h8_, h9, h9_, h10, h10_, h11, h11_, h12, h12_, h14, h14_]
                repeat' apply And.intro
                any_goals (first | exact hG16 _ (by kernel_rfl) | refine hR16 _ _ _ ?_ | omega | (unfold maxLen; omega) | (simp [h7_, h7__, h8, h8_, h9, h9_, h10, h10_, h11, h11_, h12, h12_, h14, h14_]; done) | (simp [h7_, h7__, h8, h8_, h9, h9_, h10, h10_, h11, h11_, h12, h12_, h14, h14_]; omega))
                refine AW.wk [(4, AV.bool false)] [] 5 (by simp [h7_, h7__, h8, h8_, h9, h9_, h10, h10_, h11, h11_, h12, h12_, h14, h14_]) (by simp [h7_, h7__, h8, h8_, h9, h9_, h10, h10_, h11, h11_, h12, h12_, h14, h14_]) (by simp) ?_
                simp only [Option.some.injEq] at hF
                subst hF
                refine AW.ret (hQ _ _ _ ?_ (matchO_0 ?_)).1
                · simp [Try.f45, h7_, h7__, h8, h8_, h9, h9_, h10, h10_, h11, h11_, h12, h12_, h14, h14_]
                · simp [h7_, h7__, h8, h8_, h9, h9_, h10, h10_, h11, h11_, h12, h12_, h14, h14_]
            · replace hF := ite_f h12 hF
              have h12_ := h12
              try simp at h12_
              try simp [h7_, h7__, h8, h8_, h9, h9_, h10, h10_, h11, h11_, h12, h12_]
              repeat' apply And.intro
              any_goals (first | exact hG16 _ (by kernel_rfl) | refine hR16 _ _ _ ?_ | omega | (unfold maxLen; omega) | (simp [h7_, h7__, h8, h8_, h9, h9_, h10, h10_, h11, h11_, h12, h12_]; done) | (simp [h7_, h7__, h8, h8_, h9, h9_, h10, h10_, h11, h11_, h12, h12_]; omega))
              refine AW.wk [(4, AV.bool false)] [] 5 (by simp [h7_, h7__, h8, h8_, h9, h9_, h10, h10_, h11, h11_, h12, h12_]) (by simp [h7_, h7__, h8, h8_, h9, h9_, h10, h10_, h11, h11_, h12, h12_]) (by simp) ?_
              simp only [Option.some.injEq] at hF
              subst hF
              refine AW.ret (hQ _ _ _ ?_ (matchO_0 ?_)).1
              · simp [Try.f45, h7_, h7__, h8, h8_, h9, h9_, h10, h10_, h11, h11_, h12, h12_]
              · simp [h7_, h7__, h8, h8_, h9, h9_, h10, h10_, h11, h11_, h12, h12_]
          · replace hF := ite_f h11 hF
            have h11_ := h11
            try simp at h11_
            try simp [h7_, h7__, h8, h8_, h9, h9_, h10, h10_, h11, h11_]
            repeat' apply And.intro
            any_goals (first | exact hG16 _ (by kernel_rfl) | refine hR16 _ _ _ ?_ | omega | (unfold maxLen; omega) | (simp [h7_, h7__, h8, h8_, h9, h9_, h10, h10_, h11, h11_]; done) | (simp [h7_, h7__, h8, h8_, h9, h9_, h10, h10_, h11, h11_]; omega))
            refine AW.wk [(4, AV.bool false)] [] 5 (by simp [h7_, h7__, h8, h8_, h9, h9_, h10, h10_, h11, h11_]) (by simp [h7_, h7__, h8, h8_, h9, h9_, h10, h10_, h11, h11_]) (by simp) ?_
            simp only [Option.some.injEq] at hF
            subst hF
            refine AW.ret (hQ _ _ _ ?_ (matchO_0 ?_)).1
            · simp [Try.f45, h7_, h7__, h8, h8_, h9, h9_, h10, h10_, h11, h11_]
            · simp [h7_, h7__, h8, h8_, h9, h9_, h10, h10_, h11, h11_]
        · replace hF := ite_f h10 hF
          have h10_ := h10
          try simp at h10_
          try simp [h7_, h7__, h8, h8_, h9, h9_, h10, h10_]
          repeat' apply And.intro
          any_goals (first | exact hG16 _ (by kernel_rfl) | refine hR16 _ _ _ ?_ | omega | (unfold maxLen; omega) | (simp [h7_, h7__, h8, h8_, h9, h9_, h10, h10_]; done) | (simp [h7_, h7__, h8, h8_, h9, h9_, h10, h10_]; omega))
          refine AW.wk [(4, AV.bool false)] [] 5 (by simp [h7_, h7__, h8, h8_, h9, h9_, h10, h10_]) (by simp [h7_, h7__, h8, h8_, h9, h9_, h10, h10_]) (by simp) ?_
          simp only [Option.some.injEq] at hF
          subst hF
          refine AW.ret (hQ _ _ _ ?_ (matchO_0 ?_)).1
          · simp [Try.f45, h7_, h7__, h8, h8_, h9, h9_, h10, h10_]
          · simp [h7_, h7__, h8, h8_, h9, h9_, h10, h10_]
      · replace hF := ite_f h9 hF
        have h9_ := h9
        try simp at h9_
        try simp [h7_, h7__, h8, h8_, h9, h9_]
        repeat' apply And.intro
        any_goals (first | exact hG16 _ (by kernel_rfl) | refine hR16 _ _ _ ?_ | omega | (unfold maxLen; omega) | (simp [h7_, h7__, h8, h8_, h9, h9_]; done) | (simp [h7_, h7__, h8, h8_, h9, h9_]; omega))
        refine AW.wk [(4, AV.bool false)] [] 5 (by simp [h7_, h7__, h8, h8_, h9, h9_]) (by simp [h7_, h7__, h8, h8_, h9, h9_]) (by simp) ?_
        simp only [Option.some.injEq] at hF
        subst hF
        refine AW.ret (hQ _ _ _ ?_ (matchO_0 ?_)).1
        · simp [Try.f45, h7_, h7__, h8, h8_, h9, h9_]
        · simp [h7_, h7__, h8, h8_, h9, h9_]
    · replace hF := ite_f h8 hF
      have h8_ := h8
      try simp at h8_
      try simp [h7_, h7__, h8, h8_]
      repeat' apply And.intro
      any_goals (first | exact hG16 _ (by kernel_rfl) | refine hR16 _ _ _ ?_ | omega | (unfold maxLen; omega) | (simp [h7_, h7__, h8, h8_]; done) | (simp [h7_, h7__, h8, h8_]; omega))
      refine AW.wk [(4, AV.bool false)] [] 5 (by simp [h7_, h7__, h8, h8_]) (by simp [h7_, h7__, h8, h8_]) (by simp) ?_
      simp only [Option.some.injEq] at hF
      subst hF
      refine AW.ret (hQ _ _ _ ?_ (matchO_0 ?_)).1
      · simp [Try.f45, h7_, h7__, h8, h8_]
      · simp [h7_, h7__, h8, h8_]
  · replace hF := ite_f h7 hF
    have h7_ := eqb_f h7
    have h7__ := neb_t h7
    try simp [h7, h7_, h7__]
    repeat' apply And.intro
    any_goals (first | exact hG16 _ (by kernel_rfl) | refine hR16 _ _ _ ?_ | omega | (unfold maxLen; omega) | (simp [h7, h7_, h7__]; done) | (simp [h7, h7_, h7__]; omega))
    refine AW.wk [(4, AV.bool false)] [] 5 (by simp [h7, h7_, h7__]) (by simp [h7, h7_, h7__]) (by simp) ?_
    simp only [Option.some.injEq] at hF
    subst hF
    refine AW.ret (hQ _ _ _ ?_ (matchO_0 ?_)).1
    · simp [Try.f45, h7, h7_, h7__]
    · simp [h7, h7_, h7__]
end Go.TF
