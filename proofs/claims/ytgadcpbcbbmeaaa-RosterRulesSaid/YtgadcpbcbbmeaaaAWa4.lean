/- Walks: the Go text computes the Lean functions (printed by a program of our own). -/
import Derived.Test.YtgadcpbcbbmeaaaAPu
import Derived.Test.YtgadcpbcbbmeaaaAAbsT
import Derived.Test.YtgadcpbcbbmeaaaAWa0
import Derived.Test.YtgadcpbcbbmeaaaAWa1
import Derived.Test.YtgadcpbcbbmeaaaAWa3
set_option linter.unusedVariables false
set_option linter.unusedSimpArgs false
set_option maxRecDepth 100000
namespace Go.TF
open Go Go.Abs Go.Proofs Go.Proofs.YtgadcpbcbbmeaaaAT
set_option maxHeartbeats 4000000 in
theorem w_capacity_Check (k : Nat) (v0 : Int) (v1 : (List api_Edge)) (v2 : (List Int)) (v3 : (List Int)) (v4 : (List Int)) (v5 : Int) (v6 : Int) (hF : capacity_Check k v0 v1 v2 v3 v4 v5 = some v6) :
    FCall Try.prog 122 [AV.agg [AV.int .i64 v0, AV.lst false false (List.map api_Edge.av v1), AV.lst false false (List.map (AV.int .i64) v2)], AV.agg [AV.lst false false (List.map (AV.int .i64) v3), AV.lst false false (List.map (AV.int .i64) v4), AV.int .i64 v5]] [] (AV.int .i64 v6) [] := by
  unfold capacity_Check at hF
  refine FCall.enter Try.func122 rfl (by simp) (by decide) (by simp) (by simp) (by simp) (by simp) (by simp) ?_
  intro c0 w0 Q h0 hQ
  refine AW.wk [(0, AV.agg [AV.int .i64 v0, AV.lst false false (List.map api_Edge.av v1), AV.lst false false (List.map (AV.int .i64) v2)]), (1, AV.agg [AV.lst false false (List.map (AV.int .i64) v3), AV.lst false false (List.map (AV.int .i64) v4), AV.int .i64 v5])] [] 0 (by simp) (by simp) (by simp) ?_
  refine AW.seqR mixed [] [none, none, none] (by kernel_rfl) fun G114 R114 hG114 hR114 => ?_
  try simp
  repeat' apply And.intro
  any_goals (first | exact hG114 _ (by kernel_rfl) | refine hR114 _ _ _ ?_ | omega | (unfold maxLen; omega) | (simp; done) | (simp; omega))
  refine AW.wk [(2, AV.ptr 0 0), (3, AV.ptr 1 0)] [(0, .cells [AV.int .i64 v0, AV.lst false false (List.map api_Edge.av v1), AV.lst false false (List.map (AV.int .i64) v2)]), (1, .cells [AV.lst false false (List.map (AV.int .i64) v3), AV.lst false false (List.map (AV.int .i64) v4), AV.int .i64 v5])] 2 (by simp) (by simp) (by simp) ?_
  refine AW.seq fun K118 hK118 => ?_
  refine AW.seqR mixed [] [none, none, none] (by kernel_rfl) fun G119 R119 hG119 hR119 => ?_
  try simp
  repeat' apply And.intro
  try any_goals (first | omega | (unfold maxLen; omega) | (simp; done))
  obtain ⟨v7, h1, hF⟩ := bnd1_elim hF
  refine aCall_l (w_graph_Check k _ _ _ _ h1) (by simp) [] [] [] rfl (.cons (.same (by simp)) .nil) (by simp) (by decide) (by simp) (by simp) (.inl rfl) (by simp) (by simp) ?_
  try simp
  repeat' apply And.intro
  any_goals (first | exact hG119 _ (by kernel_rfl) | refine hR119 _ _ _ ?_ | omega | (unfold maxLen; omega) | (simp; done) | (simp; omega))
  refine AW.wk [(2, AV.ptr 0 0), (3, AV.ptr 1 0), (5, AV.int .i64 v7)] [(0, .cells [AV.int .i64 v0, AV.lst false false (List.map api_Edge.av v1), AV.lst false false (List.map (AV.int .i64) v2)]), (1, .cells [AV.lst false false (List.map (AV.int .i64) v3), AV.lst false false (List.map (AV.int .i64) v4), AV.int .i64 v5])] 2 (by simp) (by simp) (by simp) ?_
  refine AW.seqR mixed [] [none, none] (by kernel_rfl) fun G120 R120 hG120 hR120 => ?_
  try simp
  repeat' apply And.intro
  any_goals (first | exact hG120 _ (by kernel_rfl) | refine hR120 _ _ _ ?_ | omega | (unfold maxLen; omega) | (simp; done) | (simp; omega))
  refine AW.wk [(2, AV.ptr 0 0), (3, AV.ptr 1 0), (5, AV.int .i64 v7), (11, AV.bool (v7 != 0))] [(0, .cells [AV.int .i64 v0, AV.lst false false (List.map api_Edge.av v1), AV.lst false false (List.map (AV.int .i64) v2)]), (1, .cells [AV.lst false false (List.map (AV.int .i64) v3), AV.lst false false (List.map (AV.int .i64) v4), AV.int .i64 v5])] 2 (by simp) (by simp) (by simp) ?_
  by_cases h2 : v7 ≠ 0
  · replace hF := ite_t h2 hF
    have h2_ := eqb_f h2
    have h2__ := neb_t h2
    refine AW.condT (by decide) (by first | (simp [h2, h2_, h2__]; done) | (simp [h2, h2_, h2__]; omega)) ?_
    refine AW.seqR mixed [] [none, none] (by kernel_rfl) fun G121 R121 hG121 hR121 => ?_
    try simp [h2, h2_, h2__]
    repeat' apply And.intro
    any_goals (first | exact hG121 _ (by kernel_rfl) | refine hR121 _ _ _ ?_ | omega | (unfold maxLen; omega) | (simp [h2, h2_, h2__]; done) | (simp [h2, h2_, h2__]; omega))
    refine AW.wk [(4, AV.int .i64 v7)] [] 2 (by simp [h2, h2_, h2__]) (by simp [h2, h2_, h2__]) (by simp) ?_
    simp only [Option.some.injEq] at hF
    subst hF
    refine AW.ret (hQ _ _ _ ?_ (matchO_0 ?_)).1
    · simp [Try.f122, h2, h2_, h2__]
    · simp [h2, h2_, h2__]
  · replace hF := ite_f h2 hF
    have h2q : v7 = 0 := Classical.not_not.1 h2
    have h2_ := eqb_t h2q
    have h2__ := neb_f h2q
    refine AW.condF (by decide) (by first | (simp [h2_, h2__, h2q]; done) | (simp [h2_, h2__, h2q]; omega)) ?_
    refine AW.skip ?_
    refine hK118 _ _ _ ?_
    refine AW.seq fun K127 hK127 => ?_
    refine AW.seqR mixed [] [none, none, none, none, none, some (17, false), some (17, false), some (17, false), some (17, false), some (17, false), some (17, false), some (17, false), none, none, some (26, false), some (26, false), some (26, false), some (26, false), some (26, false), none, none, some (33, false), some (33, false), some (33, false), some (33, false), none] (by kernel_rfl) fun G128 R128 hG128 hR128 => ?_
    by_cases h3 : (v3.length : Int) = 0
    · replace hF := ite_t h3 hF
      have h3q : (v3.length : Int) = 0 := h3
      have h3_ := eqb_t h3q
      have h3__ := neb_f h3q
      try simp [h2_, h2__, h2q, h3_, h3__, h3q]
      repeat' apply And.intro
      any_goals (first | exact hG128 _ (by kernel_rfl) | refine hR128 _ _ _ ?_ | omega | (unfold maxLen; omega) | (simp [h2_, h2__, h2q, h3_, h3__, h3q]; done) | (simp [h2_, h2__, h2q, h3_, h3__, h3q]; omega))
      refine AW.wk [(3, AV.ptr 1 0), (38, AV.bool true)] [(1, .cells [AV.lst false false (List.map (AV.int .i64) v3), AV.lst false false (List.map (AV.int .i64) v4), AV.int .i64 v5])] 2 (by simp [h2_, h2__, h2q, h3_, h3__, h3q]) (by simp [h2_, h2__, h2q, h3_, h3__, h3q]) (by simp) ?_
      refine AW.condT (by decide) (by simp [h2_, h2__, h2q, h3_, h3__, h3q]) ?_
      refine AW.seqR mixed [] [none] (by kernel_rfl) fun G129 R129 hG129 hR129 => ?_
      try simp [h2_, h2__, h2q, h3_, h3__, h3q]
      repeat' apply And.intro
      any_goals (first | exact hG129 _ (by kernel_rfl) | refine hR129 _ _ _ ?_ | omega | (unfold maxLen; omega) | (simp [h2_, h2__, h2q, h3_, h3__, h3q]; done) | (simp [h2_, h2__, h2q, h3_, h3__, h3q]; omega))
      refine AW.wk [(4, AV.int .i64 15)] [] 2 (by simp [h2_, h2__, h2q, h3_, h3__, h3q]) (by simp [h2_, h2__, h2q, h3_, h3__, h3q]) (by simp) ?_
      simp only [Option.some.injEq] at hF
      subst hF
      refine AW.ret (hQ _ _ _ ?_ (matchO_0 ?_)).1
      · simp [Try.f122, h2_, h2__, h2q, h3_, h3__, h3q]
      · simp [h2_, h2__, h2q, h3_, h3__, h3q]
    · replace hF := ite_f h3 hF
      have h3_ := eqb_f h3
      have h3__ := neb_t h3
      try simp [h2_, h2__, h2q, h3, h3_, h3__]
      repeat' apply And.intro
      try any_goals (first | omega | (unfold maxLen; omega) | (simp [h2_, h2__, h2q, h3, h3_, h3__]; done))
      obtain ⟨v8, h4, hF⟩ := bnd1_elim hF
      refine aCall_l (w_lists_Rising k _ _ _ _ h4) (by simp) [] [] [] rfl (.cons (.same (by simp [h2_, h2__, h2q, h3, h3_, h3__])) (.cons (.same (by simp [h2_, h2__, h2q, h3, h3_, h3__])) (.cons (.same (by simp [h2_, h2__, h2q, h3, h3_, h3__])) .nil))) (by simp [h2_, h2__, h2q, h3, h3_, h3__]) (by decide) (by simp) (by simp) (.inl rfl) (by simp) (by simp) ?_
      by_cases h5 : (!v8) = true
      · replace hF := ite_t h5 hF
        have h5_ := h5
        try simp at h5_
        try simp [h2_, h2__, h2q, h3, h3_, h3__, h5, h5_]
        repeat' apply And.intro
        any_goals (first | exact hG128 _ (by kernel_rfl) | refine hR128 _ _ _ ?_ | omega | (unfold maxLen; omega) | (simp [h2_, h2__, h2q, h3, h3_, h3__, h5, h5_]; done) | (simp [h2_, h2__, h2q, h3, h3_, h3__, h5, h5_]; omega))
        refine AW.wk [(3, AV.ptr 1 0), (38, AV.bool true)] [(1, .cells [AV.lst false false (List.map (AV.int .i64) v3), AV.lst false false (List.map (AV.int .i64) v4), AV.int .i64 v5])] 2 (by simp [h2_, h2__, h2q, h3, h3_, h3__, h5, h5_]) (by simp [h2_, h2__, h2q, h3, h3_, h3__, h5, h5_]) (by simp) ?_
        refine AW.condT (by decide) (by simp [h2_, h2__, h2q, h3, h3_, h3__, h5, h5_]) ?_
        refine AW.seqR mixed [] [none] (by kernel_rfl) fun G130 R130 hG130 hR130 => ?_
        try simp [h2_, h2__, h2q, h3, h3_, h3__, h5, h5_]
        repeat' apply And.intro
        any_goals (first | exact hG130 _ (by kernel_rfl) | refine hR130 _ _ _ ?_ | omega | (unfold maxLen; omega) | (simp [h2_, h2__, h2q, h3, h3_, h3__, h5, h5_]; done) | (simp [h2_, h2__, h2q, h3, h3_, h3__, h5, h5_]; omega))
        refine AW.wk [(4, AV.int .i64 15)] [] 2 (by simp [h2_, h2__, h2q, h3, h3_, h3__, h5, h5_]) (by simp [h2_, h2__, h2q, h3, h3_, h3__, h5, h5_]) (by simp) ?_
        simp only [Option.some.injEq] at hF
        subst hF
        refine AW.ret (hQ _ _ _ ?_ (matchO_0 ?_)).1
        · simp [Try.f122, h2_, h2__, h2q, h3, h3_, h3__, h5, h5_]
        · simp [h2_, h2__, h2q, h3, h3_, h3__, h5, h5_]
      · replace hF := ite_f h5 hF
        have h5_ := h5
        try simp at h5_
        try simp [h2_, h2__, h2q, h3, h3_, h3__, h5, h5_]
        repeat' apply And.intro
        try any_goals (first | omega | (unfold maxLen; omega) | (simp [h2_, h2__, h2q, h3, h3_, h3__, h5, h5_]; done))
        obtain ⟨v9, h6, hF⟩ := bnd1_elim hF
        refine aCall_l (w_lists_In k _ _ _ _ h6) (by simp) [] [] [] rfl (.cons (.same (by simp [h2_, h2__, h2q, h3, h3_, h3__, h5, h5_])) (.cons (.same (by simp [h2_, h2__, h2q, h3, h3_, h3__, h5, h5_])) (.cons (.same (by simp [h2_, h2__, h2q, h3, h3_, h3__, h5, h5_])) .nil))) (by simp [h2_, h2__, h2q, h3, h3_, h3__, h5, h5_]) (by decide) (by simp) (by simp) (.inl rfl) (by simp) (by simp) ?_
        by_cases h7 : (!v9) = true
        · replace hF := ite_t h7 hF
          have h7_ := h7
          try simp at h7_
          try simp [h2_, h2__, h2q, h3, h3_, h3__, h5, h5_, h7, h7_]
          repeat' apply And.intro
          any_goals (first | exact hG128 _ (by kernel_rfl) | refine hR128 _ _ _ ?_ | omega | (unfold maxLen; omega) | (simp [h2_, h2__, h2q, h3, h3_, h3__, h5, h5_, h7, h7_]; done) | (simp [h2_, h2__, h2q, h3, h3_, h3__, h5, h5_, h7, h7_]; omega))
          refine AW.wk [(3, AV.ptr 1 0), (38, AV.bool true)] [(1, .cells [AV.lst false false (List.map (AV.int .i64) v3), AV.lst false false (List.map (AV.int .i64) v4), AV.int .i64 v5])] 2 (by simp [h2_, h2__, h2q, h3, h3_, h3__, h5, h5_, h7, h7_]) (by simp [h2_, h2__, h2q, h3, h3_, h3__, h5, h5_, h7, h7_]) (by simp) ?_
          refine AW.condT (by decide) (by simp [h2_, h2__, h2q, h3, h3_, h3__, h5, h5_, h7, h7_]) ?_
          refine AW.seqR mixed [] [none] (by kernel_rfl) fun G131 R131 hG131 hR131 => ?_
          try simp [h2_, h2__, h2q, h3, h3_, h3__, h5, h5_, h7, h7_]
          repeat' apply And.intro
          any_goals (first | exact hG131 _ (by kernel_rfl) | refine hR131 _ _ _ ?_ | omega | (unfold maxLen; omega) | (simp [h2_, h2__, h2q, h3, h3_, h3__, h5, h5_, h7, h7_]; done) | (simp [h2_, h2__, h2q, h3, h3_, h3__, h5, h5_, h7, h7_]; omega))
          refine AW.wk [(4, AV.int .i64 15)] [] 2 (by simp [h2_, h2__, h2q, h3, h3_, h3__, h5, h5_, h7, h7_]) (by simp [h2_, h2__, h2q, h3, h3_, h3__, h5, h5_, h7, h7_]) (by simp) ?_
          simp only [Option.some.injEq] at hF
          subst hF
          refine AW.ret (hQ _ _ _ ?_ (matchO_0 ?_)).1
          · simp [Try.f122, h2_, h2__, h2q, h3, h3_, h3__, h5, h5_, h7, h7_]
          · simp [h2_, h2__, h2q, h3, h3_, h3__, h5, h5_, h7, h7_]
        · replace hF := ite_f h7 hF
          have h7_ := h7
          try simp at h7_
          try simp [h2_, h2__, h2q, h3, h3_, h3__, h5, h5_, h7, h7_]
          repeat' apply And.intro
          try any_goals (first | omega | (unfold maxLen; omega) | (simp [h2_, h2__, h2q, h3, h3_, h3__, h5, h5_, h7, h7_]; done))
          obtain ⟨v10, h8, hF⟩ := bnd1_elim hF
          refine aCall_l (w_lists_In k _ _ _ _ h8) (by simp) [] [] [] rfl (.cons (.same (by simp [h2_, h2__, h2q, h3, h3_, h3__, h5, h5_, h7, h7_])) (.cons (.same (by simp [h2_, h2__, h2q, h3, h3_, h3__, h5, h5_, h7, h7_])) (.cons (.same (by simp [h2_, h2__, h2q, h3, h3_, h3__, h5, h5_, h7, h7_])) .nil))) (by simp [h2_, h2__, h2q, h3, h3_, h3__, h5, h5_, h7, h7_]) (by decide) (by simp) (by simp) (.inl rfl) (by simp) (by simp) ?_
          try simp [h2_, h2__, h2q, h3, h3_, h3__, h5, h5_, h7, h7_]
          repeat' apply And.intro
          any_goals (first | exact hG128 _ (by kernel_rfl) | refine hR128 _ _ _ ?_ | omega | (unfold maxLen; omega) | (simp [h2_, h2__, h2q, h3, h3_, h3__, h5, h5_, h7, h7_]; done) | (simp [h2_, h2__, h2q, h3, h3_, h3__, h5, h5_, h7, h7_]; omega))
          refine AW.wk [(3, AV.ptr 1 0), (38, AV.bool (!v10))] [(1, .cells [AV.lst false false (List.map (AV.int .i64) v3), AV.lst false false (List.map (AV.int .i64) v4), AV.int .i64 v5])] 2 (by simp [h2_, h2__, h2q, h3, h3_, h3__, h5, h5_, h7, h7_]) (by simp [h2_, h2__, h2q, h3, h3_, h3__, h5, h5_, h7, h7_]) (by simp) ?_
          by_cases h9 : (!v10) = true
          · replace hF := ite_t h9 hF
            have h9_ := h9
            try simp at h9_
            refine AW.condT (by decide) (by first | (simp [h2_, h2__, h2q, h3, h3_, h3__, h5, h5_, h7, h7_, h9, h9_]; done) | (simp [h2_, h2__, h2q, h3, h3_, h3__, h5, h5_, h7, h7_, h9, h9_]; omega)) ?_
            refine AW.seqR mixed [] [none] (by kernel_rfl) fun G132 R132 hG132 hR132 => ?_
            try simp [h2_, h2__, h2q, h3, h3_, h3__, h5, h5_, h7, h7_, h9, h9_]
            repeat' apply And.intro
            any_goals (first | exact hG132 _ (by kernel_rfl) | refine hR132 _ _ _ ?_ | omega | (unfold maxLen; omega) | (simp [h2_, h2__, h2q, h3, h3_, h3__, h5, h5_, h7, h7_, h9, h9_]; done) | (simp [h2_, h2__, h2q, h3, h3_, h3__, h5, h5_, h7, h7_, h9, h9_]; omega))
            refine AW.wk [(4, AV.int .i64 15)] [] 2 (by simp [h2_, h2__, h2q, h3, h3_, h3__, h5, h5_, h7, h7_, h9, h9_]) (by simp [h2_, h2__, h2q, h3, h3_, h3__, h5, h5_, h7, h7_, h9, h9_]) (by simp) ?_
            simp only [Option.some.injEq] at hF
            subst hF
            refine AW.ret (hQ _ _ _ ?_ (matchO_0 ?_)).1
            · simp [Try.f122, h2_, h2__, h2q, h3, h3_, h3__, h5, h5_, h7, h7_, h9, h9_]
            · simp [h2_, h2__, h2q, h3, h3_, h3__, h5, h5_, h7, h7_, h9, h9_]
          · replace hF := ite_f h9 hF
            have h9_ := h9
            try simp at h9_
            refine AW.condF (by decide) (by first | (simp [h2_, h2__, h2q, h3, h3_, h3__, h5, h5_, h7, h7_, h9, h9_]; done) | (simp [h2_, h2__, h2q, h3, h3_, h3__, h5, h5_, h7, h7_, h9, h9_]; omega)) ?_
            refine AW.skip ?_
            refine hK127 _ _ _ ?_
            refine AW.seq fun K179 hK179 => ?_
            refine AW.seqR mixed [] [none, none, none, none] (by kernel_rfl) fun G180 R180 hG180 hR180 => ?_
            try simp [h2_, h2__, h2q, h3, h3_, h3__, h5, h5_, h7, h7_, h9, h9_]
            repeat' apply And.intro
            any_goals (first | exact hG180 _ (by kernel_rfl) | refine hR180 _ _ _ ?_ | omega | (unfold maxLen; omega) | (simp [h2_, h2__, h2q, h3, h3_, h3__, h5, h5_, h7, h7_, h9, h9_]; done) | (simp [h2_, h2__, h2q, h3, h3_, h3__, h5, h5_, h7, h7_, h9, h9_]; omega))
            refine AW.wk [(3, AV.ptr 1 0), (40, AV.lst false false (List.map (AV.int .i64) v4)), (41, AV.int .i64 (v4.length : Int)), (42, AV.int .i64 0)] [(1, .cells [AV.lst false false (List.map (AV.int .i64) v3), AV.lst false false (List.map (AV.int .i64) v4), AV.int .i64 v5])] 2 (by simp [h2_, h2__, h2q, h3, h3_, h3__, h5, h5_, h7, h7_, h9, h9_]) (by simp [h2_, h2__, h2q, h3, h3_, h3__, h5, h5_, h7, h7_, h9, h9_]) (by simp) ?_
            refine AW.block ?_
            refine AW.rnm (m := 0) h0 [(0, 1)] [(3, AV.ptr 0 0), (40, AV.lst false false (List.map (AV.int .i64) v4)), (41, AV.int .i64 (v4.length : Int)), (42, AV.int .i64 0)] [(0, .cells [AV.lst false false (List.map (AV.int .i64) v3), AV.lst false false (List.map (AV.int .i64) v4), AV.int .i64 v5])] 1 (by decide) (by decide) (by decide) rfl (by simp [h2_, h2__, h2q, h3, h3_, h3__, h5, h5_, h7, h7_, h9, h9_]) (by simp [h2_, h2__, h2q, h3, h3_, h3__, h5, h5_, h7, h7_, h9, h9_]) ?_
            refine AW.loopF (α := Int) (fun n v11 => capacity_Check.L1 k v4 n v11 = some v6) (fun v11 => [(3, AV.ptr 0 0), (40, AV.lst false false (List.map (AV.int .i64) v4)), (41, AV.int .i64 (v4.length : Int)), (42, AV.int .i64 v11)]) (fun v11 => [(0, .cells [AV.lst false false (List.map (AV.int .i64) v3), AV.lst false false (List.map (AV.int .i64) v4), AV.int .i64 v5])]) 1 k (0) hF (by simp [h2_, h2__, h2q, h3, h3_, h3__, h5, h5_, h7, h7_, h9, h9_]) (by simp [h2_, h2__, h2q, h3, h3_, h3__, h5, h5_, h7, h7_, h9, h9_]) (by simp) ?_
            rintro (_|n1) v11 hF K213 hK213
            · try dsimp only at hF
              rw [capacity_Check.L1] at hF; cases hF
            try dsimp only at hF
            rw [capacity_Check.L1] at hF
            refine AW.seqR mixed [] [none] (by kernel_rfl) fun G214 R214 hG214 hR214 => ?_
            try simp [h2_, h2__, h2q, h3, h3_, h3__, h5, h5_, h7, h7_, h9, h9_]
            repeat' apply And.intro
            any_goals (first | exact hG214 _ (by kernel_rfl) | refine hR214 _ _ _ ?_ | omega | (unfold maxLen; omega) | (simp [h2_, h2__, h2q, h3, h3_, h3__, h5, h5_, h7, h7_, h9, h9_]; done) | (simp [h2_, h2__, h2q, h3, h3_, h3__, h5, h5_, h7, h7_, h9, h9_]; omega))
            refine AW.wk [(3, AV.ptr 0 0), (40, AV.lst false false (List.map (AV.int .i64) v4)), (41, AV.int .i64 (v4.length : Int)), (42, AV.int .i64 v11), (43, AV.bool (decide (v11 < (v4.length : Int))))] [(0, .cells [AV.lst false false (List.map (AV.int .i64) v3), AV.lst false false (List.map (AV.int .i64) v4), AV.int .i64 v5])] 1 (by simp [h2_, h2__, h2q, h3, h3_, h3__, h5, h5_, h7, h7_, h9, h9_]) (by simp [h2_, h2__, h2q, h3, h3_, h3__, h5, h5_, h7, h7_, h9, h9_]) (by simp) ?_
            refine AW.seq fun K215 hK215 => ?_
            by_cases h10 : v11 < (v4.length : Int)
            · replace hF := ite_t h10 hF
              have h10_ := h10
              try simp at h10_
              refine AW.condT (by decide) (by first | (simp [h2_, h2__, h2q, h3, h3_, h3__, h5, h5_, h7, h7_, h9, h9_, h10, h10_]; done) | (simp [h2_, h2__, h2q, h3, h3_, h3__, h5, h5_, h7, h7_, h9, h9_, h10, h10_]; omega)) ?_
              refine AW.skip ?_
              refine hK215 _ _ _ ?_
              refine AW.midF (α := Unit) (fun _ => capacity_Check.J2 k v11 (fun v11_ => capacity_Check.L1 k v4 n1 v11_) = some v6) (fun _ => [(3, AV.ptr 0 0), (40, AV.lst false false (List.map (AV.int .i64) v4)), (41, AV.int .i64 (v4.length : Int)), (42, AV.int .i64 v11)]) (fun _ => [(0, .cells [AV.lst false false (List.map (AV.int .i64) v3), AV.lst false false (List.map (AV.int .i64) v4), AV.int .i64 v5])]) 1 (fun K221 hK221 => ?_) ?_
              · refine AW.block ?_
                refine AW.seqR mixed [] [none, none, none, none, none] (by kernel_rfl) fun G222 R222 hG222 hR222 => ?_
                obtain ⟨v12, h11, h12, h13, hF⟩ := idx_elim hF
                have h13_ := get_of h13
                try simp at h13_
                have h12_ := h12
                try simp at h12_
                try simp [h2_, h2__, h2q, h3, h3_, h3__, h5, h5_, h7, h7_, h9, h9_, h10, h10_, h11, h12, h13, h13_, h12_]
                repeat' apply And.intro
                any_goals (first | exact hG222 _ (by kernel_rfl) | refine hR222 _ _ _ ?_ | omega | (unfold maxLen; omega) | (simp [h2_, h2__, h2q, h3, h3_, h3__, h5, h5_, h7, h7_, h9, h9_, h10, h10_, h11, h12, h13, h13_, h12_]; done) | (simp [h2_, h2__, h2q, h3, h3_, h3__, h5, h5_, h7, h7_, h9, h9_, h10, h10_, h11, h12, h13, h13_, h12_]; omega))
                refine AW.wk [(3, AV.ptr 0 0), (6, AV.int .i64 v11), (7, AV.int .i64 v12), (40, AV.lst false false (List.map (AV.int .i64) v4)), (41, AV.int .i64 (v4.length : Int)), (42, AV.int .i64 v11)] [(0, .cells [AV.lst false false (List.map (AV.int .i64) v3), AV.lst false false (List.map (AV.int .i64) v4), AV.int .i64 v5])] 1 (by simp [h2_, h2__, h2q, h3, h3_, h3__, h5, h5_, h7, h7_, h9, h9_, h10, h10_, h11, h12, h13, h13_, h12_]) (by simp [h2_, h2__, h2q, h3, h3_, h3__, h5, h5_, h7, h7_, h9, h9_, h10, h10_, h11, h12, h13, h13_, h12_]) (by simp) ?_
                refine AW.seqR mixed [] [none, none, none, none, some (50, false), some (50, false), some (50, false), some (53, true), some (53, true), some (53, true), some (53, true), some (53, true), some (53, true), some (53, true), some (53, true), some (50, false), none] (by kernel_rfl) fun G223 R223 hG223 hR223 => ?_
                try simp [h2_, h2__, h2q, h3, h3_, h3__, h5, h5_, h7, h7_, h9, h9_, h10, h10_, h11, h12, h13, h13_, h12_]
                repeat' apply And.intro
                try any_goals (first | omega | (unfold maxLen; omega) | (simp [h2_, h2__, h2q, h3, h3_, h3__, h5, h5_, h7, h7_, h9, h9_, h10, h10_, h11, h12, h13, h13_, h12_]; done))
                obtain ⟨v13, h14, hF⟩ := bnd1_elim hF
                refine aCall_l (w_lists_In k _ _ _ _ h14) (by simp) [] [] [] rfl (.cons (.same (by simp [h2_, h2__, h2q, h3, h3_, h3__, h5, h5_, h7, h7_, h9, h9_, h10, h10_, h11, h12, h13, h13_, h12_])) (.cons (.same (by simp [h2_, h2__, h2q, h3, h3_, h3__, h5, h5_, h7, h7_, h9, h9_, h10, h10_, h11, h12, h13, h13_, h12_])) (.cons (.same (by simp [h2_, h2__, h2q, h3, h3_, h3__, h5, h5_, h7, h7_, h9, h9_, h10, h10_, h11, h12, h13, h13_, h12_])) .nil))) (by simp [h2_, h2__, h2q, h3, h3_, h3__, h5, h5_, h7, h7_, h9, h9_, h10, h10_, h11, h12, h13, h13_, h12_]) (by decide) (by simp) (by simp) (.inl rfl) (by simp) (by simp) ?_
                by_cases h15 : (!v13) = true
                · replace hF := ite_t h15 hF
                  have h15_ := h15
                  try simp at h15_
                  try simp [h2_, h2__, h2q, h3, h3_, h3__, h5, h5_, h7, h7_, h9, h9_, h10, h10_, h11, h12, h13, h13_, h12_, h15, h15_]
                  repeat' apply And.intro
                  any_goals (first | exact hG223 _ (by kernel_rfl) | refine hR223 _ _ _ ?_ | omega | (unfold maxLen; omega) | (simp [h2_, h2__, h2q, h3, h3_, h3__, h5, h5_, h7, h7_, h9, h9_, h10, h10_, h11, h12, h13, h13_, h12_, h15, h15_]; done) | (simp [h2_, h2__, h2q, h3, h3_, h3__, h5, h5_, h7, h7_, h9, h9_, h10, h10_, h11, h12, h13, h13_, h12_, h15, h15_]; omega))
                  refine AW.wk [(3, AV.ptr 0 0), (40, AV.lst false false (List.map (AV.int .i64) v4)), (41, AV.int .i64 (v4.length : Int)), (42, AV.int .i64 v11), (63, AV.bool true)] [(0, .cells [AV.lst false false (List.map (AV.int .i64) v3), AV.lst false false (List.map (AV.int .i64) v4), AV.int .i64 v5])] 1 (by simp [h2_, h2__, h2q, h3, h3_, h3__, h5, h5_, h7, h7_, h9, h9_, h10, h10_, h11, h12, h13, h13_, h12_, h15, h15_]) (by simp [h2_, h2__, h2q, h3, h3_, h3__, h5, h5_, h7, h7_, h9, h9_, h10, h10_, h11, h12, h13, h13_, h12_, h15, h15_]) (by simp) ?_
                  refine AW.condT (by decide) (by simp [h2_, h2__, h2q, h3, h3_, h3__, h5, h5_, h7, h7_, h9, h9_, h10, h10_, h11, h12, h13, h13_, h12_, h15, h15_]) ?_
                  refine AW.seqR mixed [] [none] (by kernel_rfl) fun G224 R224 hG224 hR224 => ?_
                  try simp [h2_, h2__, h2q, h3, h3_, h3__, h5, h5_, h7, h7_, h9, h9_, h10, h10_, h11, h12, h13, h13_, h12_, h15, h15_]
                  repeat' apply And.intro
                  any_goals (first | exact hG224 _ (by kernel_rfl) | refine hR224 _ _ _ ?_ | omega | (unfold maxLen; omega) | (simp [h2_, h2__, h2q, h3, h3_, h3__, h5, h5_, h7, h7_, h9, h9_, h10, h10_, h11, h12, h13, h13_, h12_, h15, h15_]; done) | (simp [h2_, h2__, h2q, h3, h3_, h3__, h5, h5_, h7, h7_, h9, h9_, h10, h10_, h11, h12, h13, h13_, h12_, h15, h15_]; omega))
                  refine AW.wk [(4, AV.int .i64 15)] [] 1 (by simp [h2_, h2__, h2q, h3, h3_, h3__, h5, h5_, h7, h7_, h9, h9_, h10, h10_, h11, h12, h13, h13_, h12_, h15, h15_]) (by simp [h2_, h2__, h2q, h3, h3_, h3__, h5, h5_, h7, h7_, h9, h9_, h10, h10_, h11, h12, h13, h13_, h12_, h15, h15_]) (by simp) ?_
                  simp only [Option.some.injEq] at hF
                  subst hF
                  refine AW.ret (hQ _ _ _ ?_ (matchO_0 ?_)).1
                  · simp [Try.f122, h2_, h2__, h2q, h3, h3_, h3__, h5, h5_, h7, h7_, h9, h9_, h10, h10_, h11, h12, h13, h13_, h12_, h15, h15_]
                  · simp [h2_, h2__, h2q, h3, h3_, h3__, h5, h5_, h7, h7_, h9, h9_, h10, h10_, h11, h12, h13, h13_, h12_, h15, h15_]
                · replace hF := ite_f h15 hF
                  have h15_ := h15
                  try simp at h15_
                  by_cases h16 : 0 < v11
                  · replace hF := ite_t h16 hF
                    have h16_ := h16
                    try simp at h16_
                    obtain ⟨v14, h17, h18, h19, hF⟩ := idx_elim hF
                    have h19_ := get_of h19
                    try simp at h19_
                    have h18_ := h18
                    try simp at h18_
                    try simp [h2_, h2__, h2q, h3, h3_, h3__, h5, h5_, h7, h7_, h9, h9_, h10, h10_, h11, h12, h13, h13_, h12_, h15, h15_, h16, h16_, h17, h18, h19, h19_, h18_]
                    repeat' apply And.intro
                    any_goals (first | exact hG223 _ (by kernel_rfl) | refine hR223 _ _ _ ?_ | omega | (unfold maxLen; omega) | (simp [h2_, h2__, h2q, h3, h3_, h3__, h5, h5_, h7, h7_, h9, h9_, h10, h10_, h11, h12, h13, h13_, h12_, h15, h15_, h16, h16_, h17, h18, h19, h19_, h18_]; done) | (simp [h2_, h2__, h2q, h3, h3_, h3__, h5, h5_, h7, h7_, h9, h9_, h10, h10_, h11, h12, h13, h13_, h12_, h15, h15_, h16, h16_, h17, h18, h19, h19_, h18_]; omega))
                    refine AW.wk [(3, AV.ptr 0 0), (40, AV.lst false false (List.map (AV.int .i64) v4)), (41, AV.int .i64 (v4.length : Int)), (42, AV.int .i64 v11), (63, AV.bool (decide (v14 < v12)))] [(0, .cells [AV.lst false false (List.map (AV.int .i64) v3), AV.lst false false (List.map (AV.int .i64) v4), AV.int .i64 v5])] 1 (by simp [h2_, h2__, h2q, h3, h3_, h3__, h5, h5_, h7, h7_, h9, h9_, h10, h10_, h11, h12, h13, h13_, h12_, h15, h15_, h16, h16_, h17, h18, h19, h19_, h18_]) (by simp [h2_, h2__, h2q, h3, h3_, h3__, h5, h5_, h7, h7_, h9, h9_, h10, h10_, h11, h12, h13, h13_, h12_, h15, h15_, h16, h16_, h17, h18, h19, h19_, h18_]) (by simp) ?_
                    by_cases h20 : v14 < v12
                    · replace hF := ite_t h20 hF
                      have h20_ := h20
                      try simp at h20_
                      refine AW.condT (by decide) (by first | (simp [h2_, h2__, h2q, h3, h3_, h3__, h5, h5_, h7, h7_, h9, h9_, h10, h10_, h11, h12, h13, h13_, h12_, h15, h15_, h16, h16_, h17, h18, h19, h19_, h18_, h20, h20_]; done) | (simp [h2_, h2__, h2q, h3, h3_, h3__, h5, h5_, h7, h7_, h9, h9_, h10, h10_, h11, h12, h13, h13_, h12_, h15, h15_, h16, h16_, h17, h18, h19, h19_, h18_, h20, h20_]; omega)) ?_
                      refine AW.seqR mixed [] [none] (by kernel_rfl) fun G225 R225 hG225 hR225 => ?_
                      try simp [h2_, h2__, h2q, h3, h3_, h3__, h5, h5_, h7, h7_, h9, h9_, h10, h10_, h11, h12, h13, h13_, h12_, h15, h15_, h16, h16_, h17, h18, h19, h19_, h18_, h20, h20_]
                      repeat' apply And.intro
                      any_goals (first | exact hG225 _ (by kernel_rfl) | refine hR225 _ _ _ ?_ | omega | (unfold maxLen; omega) | (simp [h2_, h2__, h2q, h3, h3_, h3__, h5, h5_, h7, h7_, h9, h9_, h10, h10_, h11, h12, h13, h13_, h12_, h15, h15_, h16, h16_, h17, h18, h19, h19_, h18_, h20, h20_]; done) | (simp [h2_, h2__, h2q, h3, h3_, h3__, h5, h5_, h7, h7_, h9, h9_, h10, h10_, h11, h12, h13, h13_, h12_, h15, h15_, h16, h16_, h17, h18, h19, h19_, h18_, h20, h20_]; omega))
                      refine AW.wk [(4, AV.int .i64 15)] [] 1 (by simp [h2_, h2__, h2q, h3, h3_, h3__, h5, h5_, h7, h7_, h9, h9_, h10, h10_, h11, h12, h13, h13_, h12_, h15, h15_, h16, h16_, h17, h18, h19, h19_, h18_, h20, h20_]) (by simp [h2_, h2__, h2q, h3, h3_, h3__, h5, h5_, h7, h7_, h9, h9_, h10, h10_, h11, h12, h13, h13_, h12_, h15, h15_, h16, h16_, h17, h18, h19, h19_, h18_, h20, h20_]) (by simp) ?_
                      simp only [Option.some.injEq] at hF
                      subst hF
                      refine AW.ret (hQ _ _ _ ?_ (matchO_0 ?_)).1
                      · simp [Try.f122, h2_, h2__, h2q, h3, h3_, h3__, h5, h5_, h7, h7_, h9, h9_, h10, h10_, h11, h12, h13, h13_, h12_, h15, h15_, h16, h16_, h17, h18, h19, h19_, h18_, h20, h20_]
                      · simp [h2_, h2__, h2q, h3, h3_, h3__, h5, h5_, h7, h7_, h9, h9_, h10, h10_, h11, h12, h13, h13_, h12_, h15, h15_, h16, h16_, h17, h18, h19, h19_, h18_, h20, h20_]
                    · replace hF := ite_f h20 hF
                      have h20_ := h20
                      try simp at h20_
                      refine AW.condF (by decide) (by first | (simp [h2_, h2__, h2q, h3, h3_, h3__, h5, h5_, h7, h7_, h9, h9_, h10, h10_, h11, h12, h13, h13_, h12_, h15, h15_, h16, h16_, h17, h18, h19, h19_, h18_, h20, h20_]; done) | (simp [h2_, h2__, h2q, h3, h3_, h3__, h5, h5_, h7, h7_, h9, h9_, h10, h10_, h11, h12, h13, h13_, h12_, h15, h15_, h16, h16_, h17, h18, h19, h19_, h18_, h20, h20_]; omega)) ?_
                      refine AW.skip ?_
                      refine hK221 _ _ _ ?_
                      exact Can.join (()) hF (by simp [h2_, h2__, h2q, h3, h3_, h3__, h5, h5_, h7, h7_, h9, h9_, h10, h10_, h11, h12, h13, h13_, h12_, h15, h15_, h16, h16_, h17, h18, h19, h19_, h18_, h20, h20_]) (by simp [h2_, h2__, h2q, h3, h3_, h3__, h5, h5_, h7, h7_, h9, h9_, h10, h10_, h11, h12, h13, h13_, h12_, h15, h15_, h16, h16_, h17, h18, h19, h19_, h18_, h20, h20_]) (by simp)
                  · replace hF := ite_f h16 hF
                    have h16_ := h16
                    try simp at h16_
                    try simp [h2_, h2__, h2q, h3, h3_, h3__, h5, h5_, h7, h7_, h9, h9_, h10, h10_, h11, h12, h13, h13_, h12_, h15, h15_, h16, h16_]
                    repeat' apply And.intro
                    any_goals (first | exact hG223 _ (by kernel_rfl) | refine hR223 _ _ _ ?_ | omega | (unfold maxLen; omega) | (simp [h2_, h2__, h2q, h3, h3_, h3__, h5, h5_, h7, h7_, h9, h9_, h10, h10_, h11, h12, h13, h13_, h12_, h15, h15_, h16, h16_]; done) | (simp [h2_, h2__, h2q, h3, h3_, h3__, h5, h5_, h7, h7_, h9, h9_, h10, h10_, h11, h12, h13, h13_, h12_, h15, h15_, h16, h16_]; omega))
                    refine AW.wk [(3, AV.ptr 0 0), (40, AV.lst false false (List.map (AV.int .i64) v4)), (41, AV.int .i64 (v4.length : Int)), (42, AV.int .i64 v11), (63, AV.bool false)] [(0, .cells [AV.lst false false (List.map (AV.int .i64) v3), AV.lst false false (List.map (AV.int .i64) v4), AV.int .i64 v5])] 1 (by simp [h2_, h2__, h2q, h3, h3_, h3__, h5, h5_, h7, h7_, h9, h9_, h10, h10_, h11, h12, h13, h13_, h12_, h15, h15_, h16, h16_]) (by simp [h2_, h2__, h2q, h3, h3_, h3__, h5, h5_, h7, h7_, h9, h9_, h10, h10_, h11, h12, h13, h13_, h12_, h15, h15_, h16, h16_]) (by simp) ?_
                    refine AW.condF (by decide) (by simp [h2_, h2__, h2q, h3, h3_, h3__, h5, h5_, h7, h7_, h9, h9_, h10, h10_, h11, h12, h13, h13_, h12_, h15, h15_, h16, h16_]) ?_
                    refine AW.skip ?_
                    refine hK221 _ _ _ ?_
                    exact Can.join (()) hF (by simp [h2_, h2__, h2q, h3, h3_, h3__, h5, h5_, h7, h7_, h9, h9_, h10, h10_, h11, h12, h13, h13_, h12_, h15, h15_, h16, h16_]) (by simp [h2_, h2__, h2q, h3, h3_, h3__, h5, h5_, h7, h7_, h9, h9_, h10, h10_, h11, h12, h13, h13_, h12_, h15, h15_, h16, h16_]) (by simp)
              · rintro ⟨⟩ hF
                try dsimp only at hF
                unfold capacity_Check.J2 at hF
                refine AW.region mixed [] [none, none] (by kernel_rfl) fun G220 R220 hG220 hR220 => ?_
                try simp [h2_, h2__, h2q, h3, h3_, h3__, h5, h5_, h7, h7_, h9, h9_, h10, h10_]
                repeat' apply And.intro
                any_goals (first | exact hG220 _ (by kernel_rfl) | refine hR220 _ _ _ ?_ | omega | (unfold maxLen; omega) | (simp [h2_, h2__, h2q, h3, h3_, h3__, h5, h5_, h7, h7_, h9, h9_, h10, h10_]; done) | (simp [h2_, h2__, h2q, h3, h3_, h3__, h5, h5_, h7, h7_, h9, h9_, h10, h10_]; omega))
                refine hK213 _ _ _ ?_
                refine Can.weak [(3, AV.ptr 0 0), (40, AV.lst false false (List.map (AV.int .i64) v4)), (41, AV.int .i64 (v4.length : Int)), (42, AV.int .i64 (IntKind.wrap .i64 (v11 + 1)))] [(0, .cells [AV.lst false false (List.map (AV.int .i64) v3), AV.lst false false (List.map (AV.int .i64) v4), AV.int .i64 v5])] 1 (by simp [h2_, h2__, h2q, h3, h3_, h3__, h5, h5_, h7, h7_, h9, h9_, h10, h10_]) (by simp [h2_, h2__, h2q, h3, h3_, h3__, h5, h5_, h7, h7_, h9, h9_, h10, h10_]) (by simp) ?_
                exact Can.next (k' := n1) (IntKind.wrap .i64 (v11 + 1)) (by omega) hF (by simp [h2_, h2__, h2q, h3, h3_, h3__, h5, h5_, h7, h7_, h9, h9_, h10, h10_]) (by simp [h2_, h2__, h2q, h3, h3_, h3__, h5, h5_, h7, h7_, h9, h9_, h10, h10_]) (by simp)
            · replace hF := ite_f h10 hF
              have h10_ := h10
              try simp at h10_
              refine AW.condF (by decide) (by first | (simp [h2_, h2__, h2q, h3, h3_, h3__, h5, h5_, h7, h7_, h9, h9_, h10, h10_]; done) | (simp [h2_, h2__, h2q, h3, h3_, h3__, h5, h5_, h7, h7_, h9, h9_, h10, h10_]; omega)) ?_
              refine AW.exit ?_
              try simp
              refine hK179 _ _ _ ?_
              refine AW.seqR mixed [] [none] (by kernel_rfl) fun G226 R226 hG226 hR226 => ?_
              try simp [h2_, h2__, h2q, h3, h3_, h3__, h5, h5_, h7, h7_, h9, h9_, h10, h10_]
              repeat' apply And.intro
              any_goals (first | exact hG226 _ (by kernel_rfl) | refine hR226 _ _ _ ?_ | omega | (unfold maxLen; omega) | (simp [h2_, h2__, h2q, h3, h3_, h3__, h5, h5_, h7, h7_, h9, h9_, h10, h10_]; done) | (simp [h2_, h2__, h2q, h3, h3_, h3__, h5, h5_, h7, h7_, h9, h9_, h10, h10_]; omega))
              refine AW.wk [(4, AV.int .i64 0)] [] 1 (by simp [h2_, h2__, h2q, h3, h3_, h3__, h5, h5_, h7, h7_, h9, h9_, h10, h10_]) (by simp [h2_, h2__, h2q, h3, h3_, h3__, h5, h5_, h7, h7_, h9, h9_, h10, h10_]) (by simp) ?_
              simp only [Option.some.injEq] at hF
              subst hF
              refine AW.ret (hQ _ _ _ ?_ (matchO_0 ?_)).1
              · simp [Try.f122, h2_, h2__, h2q, h3, h3_, h3__, h5, h5_, h7, h7_, h9, h9_, h10, h10_]
              · simp [h2_, h2__, h2q, h3, h3_, h3__, h5, h5_, h7, h7_, h9, h9_, h10, h10_]
set_option maxHeartbeats 4000000 in
theorem w_roster_Check (k : Nat) (v0 : (List Int)) (v1 : (List Int)) (v2 : (List Int)) (v3 : Int) (v4 : Int) (v5 : Int) (v6 : Int) (v7 : Int) (hF : roster_Check k v0 v1 v2 v3 v4 v5 v6 = some v7) :
    FCall Try.prog 52 [AV.agg [AV.lst false false (List.map (AV.int .i64) v0), AV.lst false false (List.map (AV.int .i64) v1), AV.lst false false (List.map (AV.int .i64) v2), AV.int .i64 v3, AV.int .i64 v4, AV.int .i64 v5, AV.int .i64 v6]] [] (AV.int .i64 v7) [] := by
  unfold roster_Check at hF
  refine FCall.enter Try.func52 rfl (by simp) (by decide) (by simp) (by simp) (by simp) (by simp) (by simp) ?_
  intro c0 w0 Q h0 hQ
  refine AW.wk [(0, AV.agg [AV.lst false false (List.map (AV.int .i64) v0), AV.lst false false (List.map (AV.int .i64) v1), AV.lst false false (List.map (AV.int .i64) v2), AV.int .i64 v3, AV.int .i64 v4, AV.int .i64 v5, AV.int .i64 v6])] [] 0 (by simp) (by simp) (by simp) ?_
  refine AW.seqR mixed [] [none, none] (by kernel_rfl) fun G30 R30 hG30 hR30 => ?_
  try simp
  repeat' apply And.intro
  any_goals (first | exact hG30 _ (by kernel_rfl) | refine hR30 _ _ _ ?_ | omega | (unfold maxLen; omega) | (simp; done) | (simp; omega))
  refine AW.wk [(1, AV.ptr 0 0)] [(0, .cells [AV.lst false false (List.map (AV.int .i64) v0), AV.lst false false (List.map (AV.int .i64) v1), AV.lst false false (List.map (AV.int .i64) v2), AV.int .i64 v3, AV.int .i64 v4, AV.int .i64 v5, AV.int .i64 v6])] 1 (by simp) (by simp) (by simp) ?_
  refine AW.seq fun K33 hK33 => ?_
  refine AW.seqR mixed [] [none, none, none, none] (by kernel_rfl) fun G34 R34 hG34 hR34 => ?_
  try simp
  repeat' apply And.intro
  try any_goals (first | omega | (unfold maxLen; omega) | (simp; done))
  obtain ⟨v8, h1, hF⟩ := bnd1_elim hF
  refine aCall_l (w_roster_Valid k _ _ h1) (by simp) [] [] [] rfl (.cons (.same (by simp)) .nil) (by simp) (by decide) (by simp) (by simp) (.inl rfl) (by simp) (by simp) ?_
  try simp
  repeat' apply And.intro
  any_goals (first | exact hG34 _ (by kernel_rfl) | refine hR34 _ _ _ ?_ | omega | (unfold maxLen; omega) | (simp; done) | (simp; omega))
  refine AW.wk [(1, AV.ptr 0 0), (7, AV.bool (!v8))] [(0, .cells [AV.lst false false (List.map (AV.int .i64) v0), AV.lst false false (List.map (AV.int .i64) v1), AV.lst false false (List.map (AV.int .i64) v2), AV.int .i64 v3, AV.int .i64 v4, AV.int .i64 v5, AV.int .i64 v6])] 1 (by simp) (by simp) (by simp) ?_
  by_cases h2 : (!v8) = true
  · replace hF := ite_t h2 hF
    have h2_ := h2
    try simp at h2_
    refine AW.condT (by decide) (by first | (simp [h2, h2_]; done) | (simp [h2, h2_]; omega)) ?_
    refine AW.seqR mixed [] [none] (by kernel_rfl) fun G35 R35 hG35 hR35 => ?_
    try simp [h2, h2_]
    repeat' apply And.intro
    any_goals (first | exact hG35 _ (by kernel_rfl) | refine hR35 _ _ _ ?_ | omega | (unfold maxLen; omega) | (simp [h2, h2_]; done) | (simp [h2, h2_]; omega))
    refine AW.wk [(2, AV.int .i64 43)] [] 1 (by simp [h2, h2_]) (by simp [h2, h2_]) (by simp) ?_
    simp only [Option.some.injEq] at hF
    subst hF
    refine AW.ret (hQ _ _ _ ?_ (matchO_0 ?_)).1
    · simp [Try.f52, h2, h2_]
    · simp [h2, h2_]
  · replace hF := ite_f h2 hF
    have h2_ := h2
    try simp at h2_
    refine AW.condF (by decide) (by first | (simp [h2, h2_]; done) | (simp [h2, h2_]; omega)) ?_
    refine AW.skip ?_
    refine hK33 _ _ _ ?_
    refine AW.seq fun K39 hK39 => ?_
    refine AW.seqR mixed [] [none, none, none, none, none] (by kernel_rfl) fun G40 R40 hG40 hR40 => ?_
    try simp [h2, h2_]
    repeat' apply And.intro
    try any_goals (first | omega | (unfold maxLen; omega) | (simp [h2, h2_]; done))
    obtain ⟨v9, h3, hF⟩ := bnd1_elim hF
    refine aCall_l (w_capacity_Check k _ _ _ _ _ _ _ h3) (by simp) [] [] [] rfl (.cons (.agg (.cons (.same (by simp [h2, h2_])) (.cons (Coe.fl (by simp [h2, h2_])) (.cons (Coe.fl (by simp [h2, h2_])) .nil)))) (.cons (.same (by simp [h2, h2_])) .nil)) (by simp [h2, h2_]) (by decide) (by simp) (by simp) (.inl rfl) (by simp) (by simp) ?_
    try simp [h2, h2_]
    repeat' apply And.intro
    any_goals (first | exact hG40 _ (by kernel_rfl) | refine hR40 _ _ _ ?_ | omega | (unfold maxLen; omega) | (simp [h2, h2_]; done) | (simp [h2, h2_]; omega))
    refine AW.wk [(1, AV.ptr 0 0), (3, AV.int .i64 v9)] [(0, .cells [AV.lst false false (List.map (AV.int .i64) v0), AV.lst false false (List.map (AV.int .i64) v1), AV.lst false false (List.map (AV.int .i64) v2), AV.int .i64 v3, AV.int .i64 v4, AV.int .i64 v5, AV.int .i64 v6])] 1 (by simp [h2, h2_]) (by simp [h2, h2_]) (by simp) ?_
    refine AW.seqR mixed [] [none, none] (by kernel_rfl) fun G41 R41 hG41 hR41 => ?_
    try simp [h2, h2_]
    repeat' apply And.intro
    any_goals (first | exact hG41 _ (by kernel_rfl) | refine hR41 _ _ _ ?_ | omega | (unfold maxLen; omega) | (simp [h2, h2_]; done) | (simp [h2, h2_]; omega))
    refine AW.wk [(1, AV.ptr 0 0), (3, AV.int .i64 v9), (13, AV.bool (v9 != 0))] [(0, .cells [AV.lst false false (List.map (AV.int .i64) v0), AV.lst false false (List.map (AV.int .i64) v1), AV.lst false false (List.map (AV.int .i64) v2), AV.int .i64 v3, AV.int .i64 v4, AV.int .i64 v5, AV.int .i64 v6])] 1 (by simp [h2, h2_]) (by simp [h2, h2_]) (by simp) ?_
    by_cases h4 : v9 ≠ 0
    · replace hF := ite_t h4 hF
      have h4_ := eqb_f h4
      have h4__ := neb_t h4
      refine AW.condT (by decide) (by first | (simp [h2, h2_, h4, h4_, h4__]; done) | (simp [h2, h2_, h4, h4_, h4__]; omega)) ?_
      refine AW.seqR mixed [] [none, none] (by kernel_rfl) fun G42 R42 hG42 hR42 => ?_
      try simp [h2, h2_, h4, h4_, h4__]
      repeat' apply And.intro
      any_goals (first | exact hG42 _ (by kernel_rfl) | refine hR42 _ _ _ ?_ | omega | (unfold maxLen; omega) | (simp [h2, h2_, h4, h4_, h4__]; done) | (simp [h2, h2_, h4, h4_, h4__]; omega))
      refine AW.wk [(2, AV.int .i64 v9)] [] 1 (by simp [h2, h2_, h4, h4_, h4__]) (by simp [h2, h2_, h4, h4_, h4__]) (by simp) ?_
      simp only [Option.some.injEq] at hF
      subst hF
      refine AW.ret (hQ _ _ _ ?_ (matchO_0 ?_)).1
      · simp [Try.f52, h2, h2_, h4, h4_, h4__]
      · simp [h2, h2_, h4, h4_, h4__]
    · replace hF := ite_f h4 hF
      have h4q : v9 = 0 := Classical.not_not.1 h4
      have h4_ := eqb_t h4q
      have h4__ := neb_f h4q
      refine AW.condF (by decide) (by first | (simp [h2, h2_, h4_, h4__, h4q]; done) | (simp [h2, h2_, h4_, h4__, h4q]; omega)) ?_
      refine AW.skip ?_
      refine hK39 _ _ _ ?_
      refine AW.seq fun K50 hK50 => ?_
      refine AW.seqR mixed [] [none, none, none, none, some (18, false), some (18, false), some (18, false), none, none, some (23, false), some (23, false), some (23, false), none, none, some (28, false), some (28, false), some (28, false), none, none, some (33, false), some (33, false), some (33, false), none, none, some (38, false), some (38, false), some (38, false), none] (by kernel_rfl) fun G51 R51 hG51 hR51 => ?_
      by_cases h5 : v4 < 1
      · replace hF := ite_t h5 hF
        have h5_ := h5
        try simp at h5_
        try simp [h2, h2_, h4_, h4__, h4q, h5, h5_]
        repeat' apply And.intro
        any_goals (first | exact hG51 _ (by kernel_rfl) | refine hR51 _ _ _ ?_ | omega | (unfold maxLen; omega) | (simp [h2, h2_, h4_, h4__, h4q, h5, h5_]; done) | (simp [h2, h2_, h4_, h4__, h4q, h5, h5_]; omega))
        refine AW.wk [(42, AV.bool true)] [] 1 (by simp [h2, h2_, h4_, h4__, h4q, h5, h5_]) (by simp [h2, h2_, h4_, h4__, h4q, h5, h5_]) (by simp) ?_
        refine AW.condT (by decide) (by simp [h2, h2_, h4_, h4__, h4q, h5, h5_]) ?_
        refine AW.seqR mixed [] [none] (by kernel_rfl) fun G52 R52 hG52 hR52 => ?_
        try simp [h2, h2_, h4_, h4__, h4q, h5, h5_]
        repeat' apply And.intro
        any_goals (first | exact hG52 _ (by kernel_rfl) | refine hR52 _ _ _ ?_ | omega | (unfold maxLen; omega) | (simp [h2, h2_, h4_, h4__, h4q, h5, h5_]; done) | (simp [h2, h2_, h4_, h4__, h4q, h5, h5_]; omega))
        refine AW.wk [(2, AV.int .i64 40)] [] 1 (by simp [h2, h2_, h4_, h4__, h4q, h5, h5_]) (by simp [h2, h2_, h4_, h4__, h4q, h5, h5_]) (by simp) ?_
        simp only [Option.some.injEq] at hF
        subst hF
        refine AW.ret (hQ _ _ _ ?_ (matchO_0 ?_)).1
        · simp [Try.f52, h2, h2_, h4_, h4__, h4q, h5, h5_]
        · simp [h2, h2_, h4_, h4__, h4q, h5, h5_]
      · replace hF := ite_f h5 hF
        have h5_ := h5
        try simp at h5_
        by_cases h6 : 9 < v4
        · replace hF := ite_t h6 hF
          have h6_ := h6
          try simp at h6_
          try simp [h2, h2_, h4_, h4__, h4q, h5, h5_, h6, h6_]
          repeat' apply And.intro
          any_goals (first | exact hG51 _ (by kernel_rfl) | refine hR51 _ _ _ ?_ | omega | (unfold maxLen; omega) | (simp [h2, h2_, h4_, h4__, h4q, h5, h5_, h6, h6_]; done) | (simp [h2, h2_, h4_, h4__, h4q, h5, h5_, h6, h6_]; omega))
          refine AW.wk [(42, AV.bool true)] [] 1 (by simp [h2, h2_, h4_, h4__, h4q, h5, h5_, h6, h6_]) (by simp [h2, h2_, h4_, h4__, h4q, h5, h5_, h6, h6_]) (by simp) ?_
          refine AW.condT (by decide) (by simp [h2, h2_, h4_, h4__, h4q, h5, h5_, h6, h6_]) ?_
          refine AW.seqR mixed [] [none] (by kernel_rfl) fun G53 R53 hG53 hR53 => ?_
          try simp [h2, h2_, h4_, h4__, h4q, h5, h5_, h6, h6_]
          repeat' apply And.intro
          any_goals (first | exact hG53 _ (by kernel_rfl) | refine hR53 _ _ _ ?_ | omega | (unfold maxLen; omega) | (simp [h2, h2_, h4_, h4__, h4q, h5, h5_, h6, h6_]; done) | (simp [h2, h2_, h4_, h4__, h4q, h5, h5_, h6, h6_]; omega))
          refine AW.wk [(2, AV.int .i64 40)] [] 1 (by simp [h2, h2_, h4_, h4__, h4q, h5, h5_, h6, h6_]) (by simp [h2, h2_, h4_, h4__, h4q, h5, h5_, h6, h6_]) (by simp) ?_
          simp only [Option.some.injEq] at hF
          subst hF
          refine AW.ret (hQ _ _ _ ?_ (matchO_0 ?_)).1
          · simp [Try.f52, h2, h2_, h4_, h4__, h4q, h5, h5_, h6, h6_]
          · simp [h2, h2_, h4_, h4__, h4q, h5, h5_, h6, h6_]
        · replace hF := ite_f h6 hF
          have h6_ := h6
          try simp at h6_
          by_cases h7 : v5 < 1
          · replace hF := ite_t h7 hF
            have h7_ := h7
            try simp at h7_
            try simp [h2, h2_, h4_, h4__, h4q, h5, h5_, h6, h6_, h7, h7_]
            repeat' apply And.intro
            any_goals (first | exact hG51 _ (by kernel_rfl) | refine hR51 _ _ _ ?_ | omega | (unfold maxLen; omega) | (simp [h2, h2_, h4_, h4__, h4q, h5, h5_, h6, h6_, h7, h7_]; done) | (simp [h2, h2_, h4_, h4__, h4q, h5, h5_, h6, h6_, h7, h7_]; omega))
            refine AW.wk [(42, AV.bool true)] [] 1 (by simp [h2, h2_, h4_, h4__, h4q, h5, h5_, h6, h6_, h7, h7_]) (by simp [h2, h2_, h4_, h4__, h4q, h5, h5_, h6, h6_, h7, h7_]) (by simp) ?_
            refine AW.condT (by decide) (by simp [h2, h2_, h4_, h4__, h4q, h5, h5_, h6, h6_, h7, h7_]) ?_
            refine AW.seqR mixed [] [none] (by kernel_rfl) fun G54 R54 hG54 hR54 => ?_
            try simp [h2, h2_, h4_, h4__, h4q, h5, h5_, h6, h6_, h7, h7_]
            repeat' apply And.intro
            any_goals (first | exact hG54 _ (by kernel_rfl) | refine hR54 _ _ _ ?_ | omega | (unfold maxLen; omega) | (simp [h2, h2_, h4_, h4__, h4q, h5, h5_, h6, h6_, h7, h7_]; done) | (simp [h2, h2_, h4_, h4__, h4q, h5, h5_, h6, h6_, h7, h7_]; omega))
            refine AW.wk [(2, AV.int .i64 40)] [] 1 (by simp [h2, h2_, h4_, h4__, h4q, h5, h5_, h6, h6_, h7, h7_]) (by simp [h2, h2_, h4_, h4__, h4q, h5, h5_, h6, h6_, h7, h7_]) (by simp) ?_
            simp only [Option.some.injEq] at hF
            subst hF
            refine AW.ret (hQ _ _ _ ?_ (matchO_0 ?_)).1
            · simp [Try.f52, h2, h2_, h4_, h4__, h4q, h5, h5_, h6, h6_, h7, h7_]
            · simp [h2, h2_, h4_, h4__, h4q, h5, h5_, h6, h6_, h7, h7_]
          · replace hF := ite_f h7 hF
            have h7_ := h7
            try simp at h7_
            by_cases h8 : 1000000 < v5
            · replace hF := ite_t h8 hF
              have h8_ := h8
              try simp at h8_
              try simp [h2, h2_, h4_, h4__, h4q, h5, h5_, h6, h6_, h7, h7_, h8, h8_]
              repeat' apply And.intro
              any_goals (first | exact hG51 _ (by kernel_rfl) | refine hR51 _ _ _ ?_ | omega | (unfold maxLen; omega) | (simp [h2, h2_, h4_, h4__, h4q, h5, h5_, h6, h6_, h7, h7_, h8, h8_]; done) | (simp [h2, h2_, h4_, h4__, h4q, h5, h5_, h6, h6_, h7, h7_, h8, h8_]; omega))
              refine AW.wk [(42, AV.bool true)] [] 1 (by simp [h2, h2_, h4_, h4__, h4q, h5, h5_, h6, h6_, h7, h7_, h8, h8_]) (by simp [h2, h2_, h4_, h4__, h4q, h5, h5_, h6, h6_, h7, h7_, h8, h8_]) (by simp) ?_
              refine AW.condT (by decide) (by simp [h2, h2_, h4_, h4__, h4q, h5, h5_, h6, h6_, h7, h7_, h8, h8_]) ?_
              refine AW.seqR mixed [] [none] (by kernel_rfl) fun G55 R55 hG55 hR55 => ?_
              try simp [h2, h2_, h4_, h4__, h4q, h5, h5_, h6, h6_, h7, h7_, h8, h8_]
              repeat' apply And.intro
              any_goals (first | exact hG55 _ (by kernel_rfl) | refine hR55 _ _ _ ?_ | omega | (unfold maxLen; omega) | (simp [h2, h2_, h4_, h4__, h4q, h5, h5_, h6, h6_, h7, h7_, h8, h8_]; done) | (simp [h2, h2_, h4_, h4__, h4q, h5, h5_, h6, h6_, h7, h7_, h8, h8_]; omega))
              refine AW.wk [(2, AV.int .i64 40)] [] 1 (by simp [h2, h2_, h4_, h4__, h4q, h5, h5_, h6, h6_, h7, h7_, h8, h8_]) (by simp [h2, h2_, h4_, h4__, h4q, h5, h5_, h6, h6_, h7, h7_, h8, h8_]) (by simp) ?_
              simp only [Option.some.injEq] at hF
              subst hF
              refine AW.ret (hQ _ _ _ ?_ (matchO_0 ?_)).1
              · simp [Try.f52, h2, h2_, h4_, h4__, h4q, h5, h5_, h6, h6_, h7, h7_, h8, h8_]
              · simp [h2, h2_, h4_, h4__, h4q, h5, h5_, h6, h6_, h7, h7_, h8, h8_]
            · replace hF := ite_f h8 hF
              have h8_ := h8
              try simp at h8_
              by_cases h9 : v6 < 0
              · replace hF := ite_t h9 hF
                have h9_ := h9
                try simp at h9_
                try simp [h2, h2_, h4_, h4__, h4q, h5, h5_, h6, h6_, h7, h7_, h8, h8_, h9, h9_]
                repeat' apply And.intro
                any_goals (first | exact hG51 _ (by kernel_rfl) | refine hR51 _ _ _ ?_ | omega | (unfold maxLen; omega) | (simp [h2, h2_, h4_, h4__, h4q, h5, h5_, h6, h6_, h7, h7_, h8, h8_, h9, h9_]; done) | (simp [h2, h2_, h4_, h4__, h4q, h5, h5_, h6, h6_, h7, h7_, h8, h8_, h9, h9_]; omega))
                refine AW.wk [(42, AV.bool true)] [] 1 (by simp [h2, h2_, h4_, h4__, h4q, h5, h5_, h6, h6_, h7, h7_, h8, h8_, h9, h9_]) (by simp [h2, h2_, h4_, h4__, h4q, h5, h5_, h6, h6_, h7, h7_, h8, h8_, h9, h9_]) (by simp) ?_
                refine AW.condT (by decide) (by simp [h2, h2_, h4_, h4__, h4q, h5, h5_, h6, h6_, h7, h7_, h8, h8_, h9, h9_]) ?_
                refine AW.seqR mixed [] [none] (by kernel_rfl) fun G56 R56 hG56 hR56 => ?_
                try simp [h2, h2_, h4_, h4__, h4q, h5, h5_, h6, h6_, h7, h7_, h8, h8_, h9, h9_]
                repeat' apply And.intro
                any_goals (first | exact hG56 _ (by kernel_rfl) | refine hR56 _ _ _ ?_ | omega | (unfold maxLen; omega) | (simp [h2, h2_, h4_, h4__, h4q, h5, h5_, h6, h6_, h7, h7_, h8, h8_, h9, h9_]; done) | (simp [h2, h2_, h4_, h4__, h4q, h5, h5_, h6, h6_, h7, h7_, h8, h8_, h9, h9_]; omega))
                refine AW.wk [(2, AV.int .i64 40)] [] 1 (by simp [h2, h2_, h4_, h4__, h4q, h5, h5_, h6, h6_, h7, h7_, h8, h8_, h9, h9_]) (by simp [h2, h2_, h4_, h4__, h4q, h5, h5_, h6, h6_, h7, h7_, h8, h8_, h9, h9_]) (by simp) ?_
                simp only [Option.some.injEq] at hF
                subst hF
                refine AW.ret (hQ _ _ _ ?_ (matchO_0 ?_)).1
                · simp [Try.f52, h2, h2_, h4_, h4__, h4q, h5, h5_, h6, h6_, h7, h7_, h8, h8_, h9, h9_]
                · simp [h2, h2_, h4_, h4__, h4q, h5, h5_, h6, h6_, h7, h7_, h8, h8_, h9, h9_]
              · replace hF := ite_f h9 hF
                have h9_ := h9
                try simp at h9_
                try simp [h2, h2_, h4_, h4__, h4q, h5, h5_, h6, h6_, h7, h7_, h8, h8_, h9, h9_]
                repeat' apply And.intro
                any_goals (first | exact hG51 _ (by kernel_rfl) | refine hR51 _ _ _ ?_ | omega | (unfold maxLen; omega) | (simp [h2, h2_, h4_, h4__, h4q, h5, h5_, h6, h6_, h7, h7_, h8, h8_, h9, h9_]; done) | (simp [h2, h2_, h4_, h4__, h4q, h5, h5_, h6, h6_, h7, h7_, h8, h8_, h9, h9_]; omega))
                refine AW.wk [(42, AV.bool (decide (64 < v6)))] [] 1 (by simp [h2, h2_, h4_, h4__, h4q, h5, h5_, h6, h6_, h7, h7_, h8, h8_, h9, h9_]) (by simp [h2, h2_, h4_, h4__, h4q, h5, h5_, h6, h6_, h7, h7_, h8, h8_, h9, h9_]) (by simp) ?_
                by_cases h10 : 64 < v6
                · replace hF := ite_t h10 hF
                  have h10_ := h10
                  try simp at h10_
                  refine AW.condT (by decide) (by first | (simp [h2, h2_, h4_, h4__, h4q, h5, h5_, h6, h6_, h7, h7_, h8, h8_, h9, h9_, h10, h10_]; done) | (simp [h2, h2_, h4_, h4__, h4q, h5, h5_, h6, h6_, h7, h7_, h8, h8_, h9, h9_, h10, h10_]; omega)) ?_
                  refine AW.seqR mixed [] [none] (by kernel_rfl) fun G57 R57 hG57 hR57 => ?_
                  try simp [h2, h2_, h4_, h4__, h4q, h5, h5_, h6, h6_, h7, h7_, h8, h8_, h9, h9_, h10, h10_]
                  repeat' apply And.intro
                  any_goals (first | exact hG57 _ (by kernel_rfl) | refine hR57 _ _ _ ?_ | omega | (unfold maxLen; omega) | (simp [h2, h2_, h4_, h4__, h4q, h5, h5_, h6, h6_, h7, h7_, h8, h8_, h9, h9_, h10, h10_]; done) | (simp [h2, h2_, h4_, h4__, h4q, h5, h5_, h6, h6_, h7, h7_, h8, h8_, h9, h9_, h10, h10_]; omega))
                  refine AW.wk [(2, AV.int .i64 40)] [] 1 (by simp [h2, h2_, h4_, h4__, h4q, h5, h5_, h6, h6_, h7, h7_, h8, h8_, h9, h9_, h10, h10_]) (by simp [h2, h2_, h4_, h4__, h4q, h5, h5_, h6, h6_, h7, h7_, h8, h8_, h9, h9_, h10, h10_]) (by simp) ?_
                  simp only [Option.some.injEq] at hF
                  subst hF
                  refine AW.ret (hQ _ _ _ ?_ (matchO_0 ?_)).1
                  · simp [Try.f52, h2, h2_, h4_, h4__, h4q, h5, h5_, h6, h6_, h7, h7_, h8, h8_, h9, h9_, h10, h10_]
                  · simp [h2, h2_, h4_, h4__, h4q, h5, h5_, h6, h6_, h7, h7_, h8, h8_, h9, h9_, h10, h10_]
                · replace hF := ite_f h10 hF
                  have h10_ := h10
                  try simp at h10_
                  refine AW.condF (by decide) (by first | (simp [h2, h2_, h4_, h4__, h4q, h5, h5_, h6, h6_, h7, h7_, h8, h8_, h9, h9_, h10, h10_]; done) | (simp [h2, h2_, h4_, h4__, h4q, h5, h5_, h6, h6_, h7, h7_, h8, h8_, h9, h9_, h10, h10_]; omega)) ?_
                  refine AW.skip ?_
                  refine hK50 _ _ _ ?_
                  refine AW.seqR mixed [] [none] (by kernel_rfl) fun G58 R58 hG58 hR58 => ?_
                  try simp [h2, h2_, h4_, h4__, h4q, h5, h5_, h6, h6_, h7, h7_, h8, h8_, h9, h9_, h10, h10_]
                  repeat' apply And.intro
                  any_goals (first | exact hG58 _ (by kernel_rfl) | refine hR58 _ _ _ ?_ | omega | (unfold maxLen; omega) | (simp [h2, h2_, h4_, h4__, h4q, h5, h5_, h6, h6_, h7, h7_, h8, h8_, h9, h9_, h10, h10_]; done) | (simp [h2, h2_, h4_, h4__, h4q, h5, h5_, h6, h6_, h7, h7_, h8, h8_, h9, h9_, h10, h10_]; omega))
                  refine AW.wk [(2, AV.int .i64 0)] [] 1 (by simp [h2, h2_, h4_, h4__, h4q, h5, h5_, h6, h6_, h7, h7_, h8, h8_, h9, h9_, h10, h10_]) (by simp [h2, h2_, h4_, h4__, h4q, h5, h5_, h6, h6_, h7, h7_, h8, h8_, h9, h9_, h10, h10_]) (by simp) ?_
                  simp only [Option.some.injEq] at hF
                  subst hF
                  refine AW.ret (hQ _ _ _ ?_ (matchO_0 ?_)).1
                  · simp [Try.f52, h2, h2_, h4_, h4__, h4q, h5, h5_, h6, h6_, h7, h7_, h8, h8_, h9, h9_, h10, h10_]
                  · simp [h2, h2_, h4_, h4__, h4q, h5, h5_, h6, h6_, h7, h7_, h8, h8_, h9, h9_, h10, h10_]
set_option maxHeartbeats 4000000 in
theorem w_ref24_Valid (k : Nat) (v0 : (List Int)) (v1 : Bool) (hF : ref24_Valid k v0 = some v1) :
    FCall Try.prog 123 [AV.lst false false (List.map (AV.int .i64) v0)] [] (AV.bool v1) [] := by
  unfold ref24_Valid at hF
  refine FCall.enter Try.func123 rfl (by simp) (by decide) (by simp) (by simp) (by simp) (by simp) (by simp) ?_
  intro c0 w0 Q h0 hQ
  refine AW.wk [(0, AV.lst false false (List.map (AV.int .i64) v0))] [] 0 (by simp) (by simp) (by simp) ?_
  refine AW.seqR mixed [] [none] (by kernel_rfl) fun G111 R111 hG111 hR111 => ?_
  try simp
  repeat' apply And.intro
  any_goals (first | exact hG111 _ (by kernel_rfl) | refine hR111 _ _ _ ?_ | omega | (unfold maxLen; omega) | (simp; done) | (simp; omega))
  refine AW.wk [(0, AV.lst false false (List.map (AV.int .i64) v0))] [] 0 (by simp) (by simp) (by simp) ?_
  refine AW.seq fun K115 hK115 => ?_
  refine AW.seqR mixed [] [none, none, none, none, some (7, false), some (7, false), some (7, false), none] (by kernel_rfl) fun G116 R116 hG116 hR116 => ?_
  by_cases h1 : (v0.length : Int) = 0
  · replace hF := ite_t h1 hF
    have h1q : (v0.length : Int) = 0 := h1
    have h1_ := eqb_t h1q
    have h1__ := neb_f h1q
    try simp [h1_, h1__, h1q]
    repeat' apply And.intro
    any_goals (first | exact hG116 _ (by kernel_rfl) | refine hR116 _ _ _ ?_ | omega | (unfold maxLen; omega) | (simp [h1_, h1__, h1q]; done) | (simp [h1_, h1__, h1q]; omega))
    refine AW.wk [(0, AV.lst false false (List.map (AV.int .i64) v0)), (11, AV.bool true)] [] 0 (by simp [h1_, h1__, h1q]) (by simp [h1_, h1__, h1q]) (by simp) ?_
    refine AW.condT (by decide) (by simp [h1_, h1__, h1q]) ?_
    refine AW.seqR mixed [] [none] (by kernel_rfl) fun G117 R117 hG117 hR117 => ?_
    try simp [h1_, h1__, h1q]
    repeat' apply And.intro
    any_goals (first | exact hG117 _ (by kernel_rfl) | refine hR117 _ _ _ ?_ | omega | (unfold maxLen; omega) | (simp [h1_, h1__, h1q]; done) | (simp [h1_, h1__, h1q]; omega))
    refine AW.wk [(2, AV.bool false)] [] 0 (by simp [h1_, h1__, h1q]) (by simp [h1_, h1__, h1q]) (by simp) ?_
    simp only [Option.some.injEq] at hF
    subst hF
    refine AW.ret (hQ _ _ _ ?_ (matchO_0 ?_)).1
    · simp [Try.f123, h1_, h1__, h1q]
    · simp [h1_, h1__, h1q]
  · replace hF := ite_f h1 hF
    have h1_ := eqb_f h1
    have h1__ := neb_t h1
    try simp [h1, h1_, h1__]
    repeat' apply And.intro
    any_goals (first | exact hG116 _ (by kernel_rfl) | refine hR116 _ _ _ ?_ | omega | (unfold maxLen; omega) | (simp [h1, h1_, h1__]; done) | (simp [h1, h1_, h1__]; omega))
    refine AW.wk [(0, AV.lst false false (List.map (AV.int .i64) v0)), (11, AV.bool (decide (64 < (v0.length : Int))))] [] 0 (by simp [h1, h1_, h1__]) (by simp [h1, h1_, h1__]) (by simp) ?_
    by_cases h2 : 64 < (v0.length : Int)
    · replace hF := ite_t h2 hF
      have h2_ := h2
      try simp at h2_
      refine AW.condT (by decide) (by first | (simp [h1, h1_, h1__, h2, h2_]; done) | (simp [h1, h1_, h1__, h2, h2_]; omega)) ?_
      refine AW.seqR mixed [] [none] (by kernel_rfl) fun G118 R118 hG118 hR118 => ?_
      try simp [h1, h1_, h1__, h2, h2_]
      repeat' apply And.intro
      any_goals (first | exact hG118 _ (by kernel_rfl) | refine hR118 _ _ _ ?_ | omega | (unfold maxLen; omega) | (simp [h1, h1_, h1__, h2, h2_]; done) | (simp [h1, h1_, h1__, h2, h2_]; omega))
      refine AW.wk [(2, AV.bool false)] [] 0 (by simp [h1, h1_, h1__, h2, h2_]) (by simp [h1, h1_, h1__, h2, h2_]) (by simp) ?_
      simp only [Option.some.injEq] at hF
      subst hF
      refine AW.ret (hQ _ _ _ ?_ (matchO_0 ?_)).1
      · simp [Try.f123, h1, h1_, h1__, h2, h2_]
      · simp [h1, h1_, h1__, h2, h2_]
    · replace hF := ite_f h2 hF
      have h2_ := h2
      try simp at h2_
      refine AW.condF (by decide) (by first | (simp [h1, h1_, h1__, h2, h2_]; done) | (simp [h1, h1_, h1__, h2, h2_]; omega)) ?_
      refine AW.skip ?_
      refine hK115 _ _ _ ?_
      refine AW.seq fun K169 hK169 => ?_
      refine AW.seqR mixed [] [none] (by kernel_rfl) fun G170 R170 hG170 hR170 => ?_
      try simp [h1, h1_, h1__, h2, h2_]
      repeat' apply And.intro
      any_goals (first | exact hG170 _ (by kernel_rfl) | refine hR170 _ _ _ ?_ | omega | (unfold maxLen; omega) | (simp [h1, h1_, h1__, h2, h2_]; done) | (simp [h1, h1_, h1__, h2, h2_]; omega))
      refine AW.wk [(0, AV.lst false false (List.map (AV.int .i64) v0)), (3, AV.int .i64 0)] [] 0 (by simp [h1, h1_, h1__, h2, h2_]) (by simp [h1, h1_, h1__, h2, h2_]) (by simp) ?_
      refine AW.block ?_
      refine AW.loopF (α := Int) (fun n v2 => ref24_Valid.L1 k v0 n v2 = some v1) (fun v2 => [(0, AV.lst false false (List.map (AV.int .i64) v0)), (3, AV.int .i64 v2)]) (fun v2 => []) 0 k (0) hF (by simp [h1, h1_, h1__, h2, h2_]) (by simp [h1, h1_, h1__, h2, h2_]) (by simp) ?_
      rintro (_|n1) v2 hF K206 hK206
      · try dsimp only at hF
        rw [ref24_Valid.L1] at hF; cases hF
      try dsimp only at hF
      rw [ref24_Valid.L1] at hF
      refine AW.seq fun K208 hK208 => ?_
      refine AW.seqR mixed [] [none, none, none, none] (by kernel_rfl) fun G209 R209 hG209 hR209 => ?_
      try simp [h1, h1_, h1__, h2, h2_]
      repeat' apply And.intro
      any_goals (first | exact hG209 _ (by kernel_rfl) | refine hR209 _ _ _ ?_ | omega | (unfold maxLen; omega) | (simp [h1, h1_, h1__, h2, h2_]; done) | (simp [h1, h1_, h1__, h2, h2_]; omega))
      refine AW.wk [(0, AV.lst false false (List.map (AV.int .i64) v0)), (3, AV.int .i64 v2), (15, AV.bool (decide (v2 < (v0.length : Int))))] [] 0 (by simp [h1, h1_, h1__, h2, h2_]) (by simp [h1, h1_, h1__, h2, h2_]) (by simp) ?_
      by_cases h3 : v2 < (v0.length : Int)
      · replace hF := ite_t h3 hF
        have h3_ := h3
        try simp at h3_
        refine AW.condT (by decide) (by first | (simp [h1, h1_, h1__, h2, h2_, h3, h3_]; done) | (simp [h1, h1_, h1__, h2, h2_, h3, h3_]; omega)) ?_
        refine AW.skip ?_
        refine hK208 _ _ _ ?_
        refine AW.midF (α := Unit) (fun _ => ref24_Valid.J2 k v2 (fun v2_ => ref24_Valid.L1 k v0 n1 v2_) = some v1) (fun _ => [(0, AV.lst false false (List.map (AV.int .i64) v0)), (3, AV.int .i64 v2)]) (fun _ => []) 0 (fun K215 hK215 => ?_) ?_
        · refine AW.block ?_
          refine AW.seqR mixed [] [none, none, none, none, none, none, some (23, false), some (23, false), some (23, false), some (23, false), some (23, false), none, none, some (30, false), some (30, false), some (30, false), some (33, true), some (33, true), some (33, true), some (33, true), some (33, true), some (33, true), some (33, true), some (33, true), some (33, true), some (33, true), some (30, false), none] (by kernel_rfl) fun G216 R216 hG216 hR216 => ?_
          obtain ⟨v3, h4, h5, h6, hF⟩ := idx_elim hF
          have h6_ := get_of h6
          try simp at h6_
          have h5_ := h5
          try simp at h5_
          by_cases h7 : v3 < 0
          · replace hF := ite_t h7 hF
            have h7_ := h7
            try simp at h7_
            try simp [h1, h1_, h1__, h2, h2_, h3, h3_, h4, h5, h6, h6_, h5_, h7, h7_]
            repeat' apply And.intro
            any_goals (first | exact hG216 _ (by kernel_rfl) | refine hR216 _ _ _ ?_ | omega | (unfold maxLen; omega) | (simp [h1, h1_, h1__, h2, h2_, h3, h3_, h4, h5, h6, h6_, h5_, h7, h7_]; done) | (simp [h1, h1_, h1__, h2, h2_, h3, h3_, h4, h5, h6, h6_, h5_, h7, h7_]; omega))
            refine AW.wk [(0, AV.lst false false (List.map (AV.int .i64) v0)), (3, AV.int .i64 v2), (45, AV.bool true)] [] 0 (by simp [h1, h1_, h1__, h2, h2_, h3, h3_, h4, h5, h6, h6_, h5_, h7, h7_]) (by simp [h1, h1_, h1__, h2, h2_, h3, h3_, h4, h5, h6, h6_, h5_, h7, h7_]) (by simp) ?_
            refine AW.condT (by decide) (by simp [h1, h1_, h1__, h2, h2_, h3, h3_, h4, h5, h6, h6_, h5_, h7, h7_]) ?_
            refine AW.seqR mixed [] [none] (by kernel_rfl) fun G217 R217 hG217 hR217 => ?_
            try simp [h1, h1_, h1__, h2, h2_, h3, h3_, h4, h5, h6, h6_, h5_, h7, h7_]
            repeat' apply And.intro
            any_goals (first | exact hG217 _ (by kernel_rfl) | refine hR217 _ _ _ ?_ | omega | (unfold maxLen; omega) | (simp [h1, h1_, h1__, h2, h2_, h3, h3_, h4, h5, h6, h6_, h5_, h7, h7_]; done) | (simp [h1, h1_, h1__, h2, h2_, h3, h3_, h4, h5, h6, h6_, h5_, h7, h7_]; omega))
            refine AW.wk [(2, AV.bool false)] [] 0 (by simp [h1, h1_, h1__, h2, h2_, h3, h3_, h4, h5, h6, h6_, h5_, h7, h7_]) (by simp [h1, h1_, h1__, h2, h2_, h3, h3_, h4, h5, h6, h6_, h5_, h7, h7_]) (by simp) ?_
            simp only [Option.some.injEq] at hF
            subst hF
            refine AW.ret (hQ _ _ _ ?_ (matchO_0 ?_)).1
            · simp [Try.f123, h1, h1_, h1__, h2, h2_, h3, h3_, h4, h5, h6, h6_, h5_, h7, h7_]
            · simp [h1, h1_, h1__, h2, h2_, h3, h3_, h4, h5, h6, h6_, h5_, h7, h7_]
          · replace hF := ite_f h7 hF
            have h7_ := h7
            try simp at h7_
            by_cases h8 : 64 ≤ v3
            · replace hF := ite_t h8 hF
              have h8_ := h8
              try simp at h8_
              try simp [h1, h1_, h1__, h2, h2_, h3, h3_, h4, h5, h6, h6_, h5_, h7, h7_, h8, h8_]
              repeat' apply And.intro
              any_goals (first | exact hG216 _ (by kernel_rfl) | refine hR216 _ _ _ ?_ | omega | (unfold maxLen; omega) | (simp [h1, h1_, h1__, h2, h2_, h3, h3_, h4, h5, h6, h6_, h5_, h7, h7_, h8, h8_]; done) | (simp [h1, h1_, h1__, h2, h2_, h3, h3_, h4, h5, h6, h6_, h5_, h7, h7_, h8, h8_]; omega))
              refine AW.wk [(0, AV.lst false false (List.map (AV.int .i64) v0)), (3, AV.int .i64 v2), (45, AV.bool true)] [] 0 (by simp [h1, h1_, h1__, h2, h2_, h3, h3_, h4, h5, h6, h6_, h5_, h7, h7_, h8, h8_]) (by simp [h1, h1_, h1__, h2, h2_, h3, h3_, h4, h5, h6, h6_, h5_, h7, h7_, h8, h8_]) (by simp) ?_
              refine AW.condT (by decide) (by simp [h1, h1_, h1__, h2, h2_, h3, h3_, h4, h5, h6, h6_, h5_, h7, h7_, h8, h8_]) ?_
              refine AW.seqR mixed [] [none] (by kernel_rfl) fun G218 R218 hG218 hR218 => ?_
              try simp [h1, h1_, h1__, h2, h2_, h3, h3_, h4, h5, h6, h6_, h5_, h7, h7_, h8, h8_]
              repeat' apply And.intro
              any_goals (first | exact hG218 _ (by kernel_rfl) | refine hR218 _ _ _ ?_ | omega | (unfold maxLen; omega) | (simp [h1, h1_, h1__, h2, h2_, h3, h3_, h4, h5, h6, h6_, h5_, h7, h7_, h8, h8_]; done) | (simp [h1, h1_, h1__, h2, h2_, h3, h3_, h4, h5, h6, h6_, h5_, h7, h7_, h8, h8_]; omega))
              refine AW.wk [(2, AV.bool false)] [] 0 (by simp [h1, h1_, h1__, h2, h2_, h3, h3_, h4, h5, h6, h6_, h5_, h7, h7_, h8, h8_]) (by simp [h1, h1_, h1__, h2, h2_, h3, h3_, h4, h5, h6, h6_, h5_, h7, h7_, h8, h8_]) (by simp) ?_
              simp only [Option.some.injEq] at hF
              subst hF
              refine AW.ret (hQ _ _ _ ?_ (matchO_0 ?_)).1
              · simp [Try.f123, h1, h1_, h1__, h2, h2_, h3, h3_, h4, h5, h6, h6_, h5_, h7, h7_, h8, h8_]
              · simp [h1, h1_, h1__, h2, h2_, h3, h3_, h4, h5, h6, h6_, h5_, h7, h7_, h8, h8_]
            · replace hF := ite_f h8 hF
              have h8_ := h8
              try simp at h8_
              by_cases h9 : 0 < v2
              · replace hF := ite_t h9 hF
                have h9_ := h9
                try simp at h9_
                obtain ⟨v4, h10, h11, h12, hF⟩ := idx_elim hF
                have h12_ := get_of h12
                try simp at h12_
                have h11_ := h11
                try simp at h11_
                try simp [h1, h1_, h1__, h2, h2_, h3, h3_, h4, h5, h6, h6_, h5_, h7, h7_, h8, h8_, h9, h9_, h10, h11, h12, h12_, h11_]
                repeat' apply And.intro
                any_goals (first | exact hG216 _ (by kernel_rfl) | refine hR216 _ _ _ ?_ | omega | (unfold maxLen; omega) | (simp [h1, h1_, h1__, h2, h2_, h3, h3_, h4, h5, h6, h6_, h5_, h7, h7_, h8, h8_, h9, h9_, h10, h11, h12, h12_, h11_]; done) | (simp [h1, h1_, h1__, h2, h2_, h3, h3_, h4, h5, h6, h6_, h5_, h7, h7_, h8, h8_, h9, h9_, h10, h11, h12, h12_, h11_]; omega))
                refine AW.wk [(0, AV.lst false false (List.map (AV.int .i64) v0)), (3, AV.int .i64 v2), (45, AV.bool (decide (v3 ≤ v4)))] [] 0 (by simp [h1, h1_, h1__, h2, h2_, h3, h3_, h4, h5, h6, h6_, h5_, h7, h7_, h8, h8_, h9, h9_, h10, h11, h12, h12_, h11_]) (by simp [h1, h1_, h1__, h2, h2_, h3, h3_, h4, h5, h6, h6_, h5_, h7, h7_, h8, h8_, h9, h9_, h10, h11, h12, h12_, h11_]) (by simp) ?_
                by_cases h13 : v3 ≤ v4
                · replace hF := ite_t h13 hF
                  have h13_ := h13
                  try simp at h13_
                  refine AW.condT (by decide) (by first | (simp [h1, h1_, h1__, h2, h2_, h3, h3_, h4, h5, h6, h6_, h5_, h7, h7_, h8, h8_, h9, h9_, h10, h11, h12, h12_, h11_, h13, h13_]; done) | (simp [h1, h1_, h1__, h2, h2_, h3, h3_, h4, h5, h6, h6_, h5_, h7, h7_, h8, h8_, h9, h9_, h10, h11, h12, h12_, h11_, h13, h13_]; omega)) ?_
                  refine AW.seqR mixed [] [none] (by kernel_rfl) fun G219 R219 hG219 hR219 => ?_
                  try simp [h1, h1_, h1__, h2, h2_, h3, h3_, h4, h5, h6, h6_, h5_, h7, h7_, h8, h8_, h9, h9_, h10, h11, h12, h12_, h11_, h13, h13_]
                  repeat' apply And.intro
                  any_goals (first | exact hG219 _ (by kernel_rfl) | refine hR219 _ _ _ ?_ | omega | (unfold maxLen; omega) | (simp [h1, h1_, h1__, h2, h2_, h3, h3_, h4, h5, h6, h6_, h5_, h7, h7_, h8, h8_, h9, h9_, h10, h11, h12, h12_, h11_, h13, h13_]; done) | (simp [h1, h1_, h1__, h2, h2_, h3, h3_, h4, h5, h6, h6_, h5_, h7, h7_, h8, h8_, h9, h9_, h10, h11, h12, h12_, h11_, h13, h13_]; omega))
                  refine AW.wk [(2, AV.bool false)] [] 0 (by simp [h1, h1_, h1__, h2, h2_, h3, h3_, h4, h5, h6, h6_, h5_, h7, h7_, h8, h8_, h9, h9_, h10, h11, h12, h12_, h11_, h13, h13_]) (by simp [h1, h1_, h1__, h2, h2_, h3, h3_, h4, h5, h6, h6_, h5_, h7, h7_, h8, h8_, h9, h9_, h10, h11, h12, h12_, h11_, h13, h13_]) (by simp) ?_
                  simp only [Option.some.injEq] at hF
                  subst hF
                  refine AW.ret (hQ _ _ _ ?_ (matchO_0 ?_)).1
                  · simp [Try.f123, h1, h1_, h1__, h2, h2_, h3, h3_, h4, h5, h6, h6_, h5_, h7, h7_, h8, h8_, h9, h9_, h10, h11, h12, h12_, h11_, h13, h13_]
                  · simp [h1, h1_, h1__, h2, h2_, h3, h3_, h4, h5, h6, h6_, h5_, h7, h7_, h8, h8_, h9, h9_, h10, h11, h12, h12_, h11_, h13, h13_]
                · replace hF := ite_f h13 hF
                  have h13_ := h13
                  try simp at h13_
                  refine AW.condF (by decide) (by first | (simp [h1, h1_, h1__, h2, h2_, h3, h3_, h4, h5, h6, h6_, h5_, h7, h7_, h8, h8_, h9, h9_, h10, h11, h12, h12_, h11_, h13, h13_]; done) | (simp [h1, h1_, h1__, h2, h2_, h3, h3_, h4, h5, h6, h6_, h5_, h7, h7_, h8, h8_, h9, h9_, h10, h11, h12, h12_, h11_, h13, h13_]; omega)) ?_
                  refine AW.skip ?_
                  refine hK215 _ _ _ ?_
                  exact Can.join (()) hF (by simp [h1, h1_, h1__, h2, h2_, h3, h3_, h4, h5, h6, h6_, h5_, h7, h7_, h8, h8_, h9, h9_, h10, h11, h12, h12_, h11_, h13, h13_]) (by simp [h1, h1_, h1__, h2, h2_, h3, h3_, h4, h5, h6, h6_, h5_, h7, h7_, h8, h8_, h9, h9_, h10, h11, h12, h12_, h11_, h13, h13_]) (by simp)
              · replace hF := ite_f h9 hF
                have h9_ := h9
                try simp at h9_
                try simp [h1, h1_, h1__, h2, h2_, h3, h3_, h4, h5, h6, h6_, h5_, h7, h7_, h8, h8_, h9, h9_]
                repeat' apply And.intro
                any_goals (first | exact hG216 _ (by kernel_rfl) | refine hR216 _ _ _ ?_ | omega | (unfold maxLen; omega) | (simp [h1, h1_, h1__, h2, h2_, h3, h3_, h4, h5, h6, h6_, h5_, h7, h7_, h8, h8_, h9, h9_]; done) | (simp [h1, h1_, h1__, h2, h2_, h3, h3_, h4, h5, h6, h6_, h5_, h7, h7_, h8, h8_, h9, h9_]; omega))
                refine AW.wk [(0, AV.lst false false (List.map (AV.int .i64) v0)), (3, AV.int .i64 v2), (45, AV.bool false)] [] 0 (by simp [h1, h1_, h1__, h2, h2_, h3, h3_, h4, h5, h6, h6_, h5_, h7, h7_, h8, h8_, h9, h9_]) (by simp [h1, h1_, h1__, h2, h2_, h3, h3_, h4, h5, h6, h6_, h5_, h7, h7_, h8, h8_, h9, h9_]) (by simp) ?_
                refine AW.condF (by decide) (by simp [h1, h1_, h1__, h2, h2_, h3, h3_, h4, h5, h6, h6_, h5_, h7, h7_, h8, h8_, h9, h9_]) ?_
                refine AW.skip ?_
                refine hK215 _ _ _ ?_
                exact Can.join (()) hF (by simp [h1, h1_, h1__, h2, h2_, h3, h3_, h4, h5, h6, h6_, h5_, h7, h7_, h8, h8_, h9, h9_]) (by simp [h1, h1_, h1__, h2, h2_, h3, h3_, h4, h5, h6, h6_, h5_, h7, h7_, h8, h8_, h9, h9_]) (by simp)
        · rintro ⟨⟩ hF
          try dsimp only at hF
          unfold ref24_Valid.J2 at hF
          refine AW.region mixed [] [none, none, none] (by kernel_rfl) fun G214 R214 hG214 hR214 => ?_
          try simp [h1, h1_, h1__, h2, h2_, h3, h3_]
          repeat' apply And.intro
          any_goals (first | exact hG214 _ (by kernel_rfl) | refine hR214 _ _ _ ?_ | omega | (unfold maxLen; omega) | (simp [h1, h1_, h1__, h2, h2_, h3, h3_]; done) | (simp [h1, h1_, h1__, h2, h2_, h3, h3_]; omega))
          refine hK206 _ _ _ ?_
          refine Can.weak [(0, AV.lst false false (List.map (AV.int .i64) v0)), (3, AV.int .i64 (IntKind.wrap .i64 (v2 + 1)))] [] 0 (by simp [h1, h1_, h1__, h2, h2_, h3, h3_]) (by simp [h1, h1_, h1__, h2, h2_, h3, h3_]) (by simp) ?_
          exact Can.next (k' := n1) (IntKind.wrap .i64 (v2 + 1)) (by omega) hF (by simp [h1, h1_, h1__, h2, h2_, h3, h3_]) (by simp [h1, h1_, h1__, h2, h2_, h3, h3_]) (by simp)
      · replace hF := ite_f h3 hF
        have h3_ := h3
        try simp at h3_
        refine AW.condF (by decide) (by first | (simp [h1, h1_, h1__, h2, h2_, h3, h3_]; done) | (simp [h1, h1_, h1__, h2, h2_, h3, h3_]; omega)) ?_
        refine AW.exit ?_
        try simp
        refine hK169 _ _ _ ?_
        refine AW.seqR mixed [] [none] (by kernel_rfl) fun G220 R220 hG220 hR220 => ?_
        try simp [h1, h1_, h1__, h2, h2_, h3, h3_]
        repeat' apply And.intro
        any_goals (first | exact hG220 _ (by kernel_rfl) | refine hR220 _ _ _ ?_ | omega | (unfold maxLen; omega) | (simp [h1, h1_, h1__, h2, h2_, h3, h3_]; done) | (simp [h1, h1_, h1__, h2, h2_, h3, h3_]; omega))
        refine AW.wk [(2, AV.bool true)] [] 0 (by simp [h1, h1_, h1__, h2, h2_, h3, h3_]) (by simp [h1, h1_, h1__, h2, h2_, h3, h3_]) (by simp) ?_
        simp only [Option.some.injEq] at hF
        subst hF
        refine AW.ret (hQ _ _ _ ?_ (matchO_0 ?_)).1
        · simp [Try.f123, h1, h1_, h1__, h2, h2_, h3, h3_]
        · simp [h1, h1_, h1__, h2, h2_, h3, h3_]
end Go.TF
