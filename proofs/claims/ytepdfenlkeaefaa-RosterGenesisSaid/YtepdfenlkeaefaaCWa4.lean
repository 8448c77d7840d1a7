/- Walks: the Go text computes the Lean functions (printed by a program of our own). -/
import Derived.Test.YtepdfenlkeaefaaCPu
import Derived.Test.YtepdfenlkeaefaaCAbsT
import Derived.Test.YtepdfenlkeaefaaCWa0
import Derived.Test.YtepdfenlkeaefaaCWa1
import Derived.Test.YtepdfenlkeaefaaCWa2
import Derived.Test.YtepdfenlkeaefaaCWa3
set_option linter.unusedVariables false
set_option linter.unusedSimpArgs false
set_option maxRecDepth 100000
namespace Go.TF
open Go Go.Abs Go.Proofs Go.Proofs.YtepdfenlkeaefaaCT
set_option maxHeartbeats 4000000 in
theorem w_capacity_Check (k : Nat) (v0 : Int) (v1 : (List api_Edge)) (v2 : (List Int)) (v3 : (List Int)) (v4 : (List Int)) (v5 : Int) (v6 : Int) (hF : capacity_Check k v0 v1 v2 v3 v4 v5 = some v6) :
    FCall Try.prog 68 [AV.agg [AV.int .i64 v0, AV.lst false false (List.map api_Edge.av v1), AV.lst false false (List.map (AV.int .i64) v2)], AV.agg [AV.lst false false (List.map (AV.int .i64) v3), AV.lst false false (List.map (AV.int .i64) v4), AV.int .i64 v5]] [] (AV.int .i64 v6) [] := by
  unfold capacity_Check at hF
  refine FCall.enter Try.func68 rfl (by simp) (by decide) (by simp) (by simp) (by simp) (by simp) (by simp) ?_
  intro c0 w0 Q h0 hQ
  refine AW.wk [(0, AV.agg [AV.int .i64 v0, AV.lst false false (List.map api_Edge.av v1), AV.lst false false (List.map (AV.int .i64) v2)]), (1, AV.agg [AV.lst false false (List.map (AV.int .i64) v3), AV.lst false false (List.map (AV.int .i64) v4), AV.int .i64 v5])] [] 0 (by simp) (by simp) (by simp) ?_
  refine AW.seqR mixed [] [none, none, none] (by kernel_rfl) fun G114 R114 hG114 hR114 => ?_
  try simp
  repeat' apply And.intro
  any_goals (first | exact hG114 _ (by kernel_rfl) | refine hR114 _ _ _ ?_ | omega | (unfold maxLen; omega) | (simp; done) | (simp; omega))
  refine AW.wk [(2, AV.ptr 0 0), (3, AV.ptr 1 0)] [(0, .cells [AV.int .i64 v0, AV.lst false false (List.map api_Edge.av v1), AV.lst false false (List.map (AV.int .i64) v2)]), (1, .cells [AV.lst false false (List.map (AV.int .i64) v3), AV.lst false false (List.map (AV.int .i64) v4), AV.int .i64 v5])] 2 (by simp) (by simp) (by simp) ?_
  refine AW.seq fun K118 hK118 => ?_
  refine AW.seqR mixed [] [none, none, none] (by kernel_rfl) fun G119 R119 hG119 hR119 => ?_
  try simp
  repeat' apply And.intro
  try any_goals (first | omega | (unfold maxLen; omega) | (simp; done))
  obtain ⟨v7, h1, hF⟩ := bnd1_elim hF
  refine aCall_l (w_graph_Check k _ _ _ _ h1) (by simp) [] [] [] rfl (.cons (.same (by simp)) .nil) (by simp) (by decide) (by simp) (by simp) (.inl rfl) (by simp) (by simp) ?_
  try simp
  repeat' apply And.intro
  any_goals (first | exact hG119 _ (by kernel_rfl) | refine hR119 _ _ _ ?_ | omega | (unfold maxLen; omega) | (simp; done) | (simp; omega))
  refine AW.wk [(2, AV.ptr 0 0), (3, AV.ptr 1 0), (5, AV.int .i64 v7)] [(0, .cells [AV.int .i64 v0, AV.lst false false (List.map api_Edge.av v1), AV.lst false false (List.map (AV.int .i64) v2)]), (1, .cells [AV.lst false false (List.map (AV.int .i64) v3), AV.lst false false (List.map (AV.int .i64) v4), AV.int .i64 v5])] 2 (by simp) (by simp) (by simp) ?_
  refine AW.seqR mixed [] [none, none] (by kernel_rfl) fun G120 R120 hG120 hR120 => ?_
  try simp
  repeat' apply And.intro
  any_goals (first | exact hG120 _ (by kernel_rfl) | refine hR120 _ _ _ ?_ | omega | (unfold maxLen; omega) | (simp; done) | (simp; omega))
  refine AW.wk [(2, AV.ptr 0 0), (3, AV.ptr 1 0), (5, AV.int .i64 v7), (11, AV.bool (v7 != 0))] [(0, .cells [AV.int .i64 v0, AV.lst false false (List.map api_Edge.av v1), AV.lst false false (List.map (AV.int .i64) v2)]), (1, .cells [AV.lst false false (List.map (AV.int .i64) v3), AV.lst false false (List.map (AV.int .i64) v4), AV.int .i64 v5])] 2 (by simp) (by simp) (by simp) ?_
  by_cases h2 : v7 ≠ 0
  · replace hF := ite_t h2 hF
    have h2_ := eqb_f h2
    have h2__ := neb_t h2
    refine AW.condT (by decide) (by first | (simp [h2, h2_, h2__]; done) | (simp [h2, h2_, h2__]; omega)) ?_
    refine AW.seqR mixed [] [none, none] (by kernel_rfl) fun G121 R121 hG121 hR121 => ?_
    try simp [h2, h2_, h2__]
    repeat' apply And.intro
    any_goals (first | exact hG121 _ (by kernel_rfl) | refine hR121 _ _ _ ?_ | omega | (unfold maxLen; omega) | (simp [h2, h2_, h2__]; done) | (simp [h2, h2_, h2__]; omega))
    refine AW.wk [(4, AV.int .i64 v7)] [] 2 (by simp [h2, h2_, h2__]) (by simp [h2, h2_, h2__]) (by simp) ?_
    simp only [Option.some.injEq] at hF
    subst hF
    refine AW.ret (hQ _ _ _ ?_ (matchO_0 ?_)).1
    · simp [Try.f68, h2, h2_, h2__]
    · simp [h2, h2_, h2__]
  · replace hF := ite_f h2 hF
    have h2q : v7 = 0 := Classical.not_not.1 h2
    have h2_ := eqb_t h2q
    have h2__ := neb_f h2q
    refine AW.condF (by decide) (by first | (simp [h2_, h2__, h2q]; done) | (simp [h2_, h2__, h2q]; omega)) ?_
    refine AW.skip ?_
    refine hK118 _ _ _ ?_
    refine AW.seq fun K127 hK127 => ?_
    refine AW.seqR mixed [] [none, none, none, none, none, some (17, false), some (17, false), some (17, false), some (17, false), some (17, false), some (17, false), some (17, false), none, none, some (26, false), some (26, false), some (26, false), some (26, false), some (26, false), none, none, some (33, false), some (33, false), some (33, false), some (33, false), none] (by kernel_rfl) fun G128 R128 hG128 hR128 => ?_
    by_cases h3 : (v3.length : Int) = 0
    · replace hF := ite_t h3 hF
      have h3q : (v3.length : Int) = 0 := h3
      have h3_ := eqb_t h3q
      have h3__ := neb_f h3q
      try simp [h2_, h2__, h2q, h3_, h3__, h3q]
      repeat' apply And.intro
      any_goals (first | exact hG128 _ (by kernel_rfl) | refine hR128 _ _ _ ?_ | omega | (unfold maxLen; omega) | (simp [h2_, h2__, h2q, h3_, h3__, h3q]; done) | (simp [h2_, h2__, h2q, h3_, h3__, h3q]; omega))
      refine AW.wk [(3, AV.ptr 1 0), (38, AV.bool true)] [(1, .cells [AV.lst false false (List.map (AV.int .i64) v3), AV.lst false false (List.map (AV.int .i64) v4), AV.int .i64 v5])] 2 (by simp [h2_, h2__, h2q, h3_, h3__, h3q]) (by simp [h2_, h2__, h2q, h3_, h3__, h3q]) (by simp) ?_
      refine AW.condT (by decide) (by simp [h2_, h2__, h2q, h3_, h3__, h3q]) ?_
      refine AW.seqR mixed [] [none] (by kernel_rfl) fun G129 R129 hG129 hR129 => ?_
      try simp [h2_, h2__, h2q, h3_, h3__, h3q]
      repeat' apply And.intro
      any_goals (first | exact hG129 _ (by kernel_rfl) | refine hR129 _ _ _ ?_ | omega | (unfold maxLen; omega) | (simp [h2_, h2__, h2q, h3_, h3__, h3q]; done) | (simp [h2_, h2__, h2q, h3_, h3__, h3q]; omega))
      refine AW.wk [(4, AV.int .i64 15)] [] 2 (by simp [h2_, h2__, h2q, h3_, h3__, h3q]) (by simp [h2_, h2__, h2q, h3_, h3__, h3q]) (by simp) ?_
      simp only [Option.some.injEq] at hF
      subst hF
      refine AW.ret (hQ _ _ _ ?_ (matchO_0 ?_)).1
      · simp [Try.f68, h2_, h2__, h2q, h3_, h3__, h3q]
      · simp [h2_, h2__, h2q, h3_, h3__, h3q]
    · replace hF := ite_f h3 hF
      have h3_ := eqb_f h3
      have h3__ := neb_t h3
      try simp [h2_, h2__, h2q, h3, h3_, h3__]
      repeat' apply And.intro
      try any_goals (first | omega | (unfold maxLen; omega) | (simp [h2_, h2__, h2q, h3, h3_, h3__]; done))
      obtain ⟨v8, h4, hF⟩ := bnd1_elim hF
      refine aCall_l (w_lists_Rising k _ _ _ _ h4) (by simp) [] [] [] rfl (.cons (.same (by simp [h2_, h2__, h2q, h3, h3_, h3__])) (.cons (.same (by simp [h2_, h2__, h2q, h3, h3_, h3__])) (.cons (.same (by simp [h2_, h2__, h2q, h3, h3_, h3__])) .nil))) (by simp [h2_, h2__, h2q, h3, h3_, h3__]) (by decide) (by simp) (by simp) (.inl rfl) (by simp) (by simp) ?_
      by_cases h5 : (!v8) = true
      · replace hF := ite_t h5 hF
        have h5_ := h5
        try simp at h5_
        try simp [h2_, h2__, h2q, h3, h3_, h3__, h5, h5_]
        repeat' apply And.intro
        any_goals (first | exact hG128 _ (by kernel_rfl) | refine hR128 _ _ _ ?_ | omega | (unfold maxLen; omega) | (simp [h2_, h2__, h2q, h3, h3_, h3__, h5, h5_]; done) | (simp [h2_, h2__, h2q, h3, h3_, h3__, h5, h5_]; omega))
        refine AW.wk [(3, AV.ptr 1 0), (38, AV.bool true)] [(1, .cells [AV.lst false false (List.map (AV.int .i64) v3), AV.lst false false (List.map (AV.int .i64) v4), AV.int .i64 v5])] 2 (by simp [h2_, h2__, h2q, h3, h3_, h3__, h5, h5_]) (by simp [h2_, h2__, h2q, h3, h3_, h3__, h5, h5_]) (by simp) ?_
        refine AW.condT (by decide) (by simp [h2_, h2__, h2q, h3, h3_, h3__, h5, h5_]) ?_
        refine AW.seqR mixed [] [none] (by kernel_rfl) fun G130 R130 hG130 hR130 => ?_
        try simp [h2_, h2__, h2q, h3, h3_, h3__, h5, h5_]
        repeat' apply And.intro
        any_goals (first | exact hG130 _ (by kernel_rfl) | refine hR130 _ _ _ ?_ | omega | (unfold maxLen; omega) | (simp [h2_, h2__, h2q, h3, h3_, h3__, h5, h5_]; done) | (simp [h2_, h2__, h2q, h3, h3_, h3__, h5, h5_]; omega))
        refine AW.wk [(4, AV.int .i64 15)] [] 2 (by simp [h2_, h2__, h2q, h3, h3_, h3__, h5, h5_]) (by simp [h2_, h2__, h2q, h3, h3_, h3__, h5, h5_]) (by simp) ?_
        simp only [Option.some.injEq] at hF
        subst hF
        refine AW.ret (hQ _ _ _ ?_ (matchO_0 ?_)).1
        · simp [Try.f68, h2_, h2__, h2q, h3, h3_, h3__, h5, h5_]
        · simp [h2_, h2__, h2q, h3, h3_, h3__, h5, h5_]
      · replace hF := ite_f h5 hF
        have h5_ := h5
        try simp at h5_
        try simp [h2_, h2__, h2q, h3, h3_, h3__, h5, h5_]
        repeat' apply And.intro
        try any_goals (first | omega | (unfold maxLen; omega) | (simp [h2_, h2__, h2q, h3, h3_, h3__, h5, h5_]; done))
        obtain ⟨v9, h6, hF⟩ := bnd1_elim hF
        refine aCall_l (w_lists_In k _ _ _ _ h6) (by simp) [] [] [] rfl (.cons (.same (by simp [h2_, h2__, h2q, h3, h3_, h3__, h5, h5_])) (.cons (.same (by simp [h2_, h2__, h2q, h3, h3_, h3__, h5, h5_])) (.cons (.same (by simp [h2_, h2__, h2q, h3, h3_, h3__, h5, h5_])) .nil))) (by simp [h2_, h2__, h2q, h3, h3_, h3__, h5, h5_]) (by decide) (by simp) (by simp) (.inl rfl) (by simp) (by simp) ?_
        by_cases h7 : (!v9) = true
        · replace hF := ite_t h7 hF
          have h7_ := h7
          try simp at h7_
          try simp [h2_, h2__, h2q, h3, h3_, h3__, h5, h5_, h7, h7_]
          repeat' apply And.intro
          any_goals (first | exact hG128 _ (by kernel_rfl) | refine hR128 _ _ _ ?_ | omega | (unfold maxLen; omega) | (simp [h2_, h2__, h2q, h3, h3_, h3__, h5, h5_, h7, h7_]; done) | (simp [h2_, h2__, h2q, h3, h3_, h3__, h5, h5_, h7, h7_]; omega))
          refine AW.wk [(3, AV.ptr 1 0), (38, AV.bool true)] [(1, .cells [AV.lst false false (List.map (AV.int .i64) v3), AV.lst false false (List.map (AV.int .i64) v4), AV.int .i64 v5])] 2 (by simp [h2_, h2__, h2q, h3, h3_, h3__, h5, h5_, h7, h7_]) (by simp [h2_, h2__, h2q, h3, h3_, h3__, h5, h5_, h7, h7_]) (by simp) ?_
          refine AW.condT (by decide) (by simp [h2_, h2__, h2q, h3, h3_, h3__, h5, h5_, h7, h7_]) ?_
          refine AW.seqR mixed [] [none] (by kernel_rfl) fun G131 R131 hG131 hR131 => ?_
          try simp [h2_, h2__, h2q, h3, h3_, h3__, h5, h5_, h7, h7_]
          repeat' apply And.intro
          any_goals (first | exact hG131 _ (by kernel_rfl) | refine hR131 _ _ _ ?_ | omega | (unfold maxLen; omega) | (simp [h2_, h2__, h2q, h3, h3_, h3__, h5, h5_, h7, h7_]; done) | (simp [h2_, h2__, h2q, h3, h3_, h3__, h5, h5_, h7, h7_]; omega))
          refine AW.wk [(4, AV.int .i64 15)] [] 2 (by simp [h2_, h2__, h2q, h3, h3_, h3__, h5, h5_, h7, h7_]) (by simp [h2_, h2__, h2q, h3, h3_, h3__, h5, h5_, h7, h7_]) (by simp) ?_
          simp only [Option.some.injEq] at hF
          subst hF
          refine AW.ret (hQ _ _ _ ?_ (matchO_0 ?_)).1
          · simp [Try.f68, h2_, h2__, h2q, h3, h3_, h3__, h5, h5_, h7, h7_]
          · simp [h2_, h2__, h2q, h3, h3_, h3__, h5, h5_, h7, h7_]
        · replace hF := ite_f h7 hF
          have h7_ := h7
          try simp at h7_
          try simp [h2_, h2__, h2q, h3, h3_, h3__, h5, h5_, h7, h7_]
          repeat' apply And.intro
          try any_goals (first | omega | (unfold maxLen; omega) | (simp [h2_, h2__, h2q, h3, h3_, h3__, h5, h5_, h7, h7_]; done))
          obtain ⟨v10, h8, hF⟩ := bnd1_elim hF
          refine aCall_l (w_lists_In k _ _ _ _ h8) (by simp) [] [] [] rfl (.cons (.same (by simp [h2_, h2__, h2q, h3, h3_, h3__, h5, h5_, h7, h7_])) (.cons (.same (by simp [h2_, h2__, h2q, h3, h3_, h3__, h5, h5_, h7, h7_])) (.cons (.same (by simp [h2_, h2__, h2q, h3, h3_, h3__, h5, h5_, h7, h7_])) .nil))) (by simp [h2_, h2__, h2q, h3, h3_, h3__, h5, h5_, h7, h7_]) (by decide) (by simp) (by simp) (.inl rfl) (by simp) (by simp) ?_
          try simp [h2_, h2__, h2q, h3, h3_, h3__, h5, h5_, h7, h7_]
          repeat' apply And.intro
          any_goals (first | exact hG128 _ (by kernel_rfl) | refine hR128 _ _ _ ?_ | omega | (unfold maxLen; omega) | (simp [h2_, h2__, h2q, h3, h3_, h3__, h5, h5_, h7, h7_]; done) | (simp [h2_, h2__, h2q, h3, h3_, h3__, h5, h5_, h7, h7_]; omega))
          refine AW.wk [(3, AV.ptr 1 0), (38, AV.bool (!v10))] [(1, .cells [AV.lst false false (List.map (AV.int .i64) v3), AV.lst false false (List.map (AV.int .i64) v4), AV.int .i64 v5])] 2 (by simp [h2_, h2__, h2q, h3, h3_, h3__, h5, h5_, h7, h7_]) (by simp [h2_, h2__, h2q, h3, h3_, h3__, h5, h5_, h7, h7_]) (by simp) ?_
          by_cases h9 : (!v10) = true
          · replace hF := ite_t h9 hF
            have h9_ := h9
            try simp at h9_
            refine AW.condT (by decide) (by first | (simp [h2_, h2__, h2q, h3, h3_, h3__, h5, h5_, h7, h7_, h9, h9_]; done) | (simp [h2_, h2__, h2q, h3, h3_, h3__, h5, h5_, h7, h7_, h9, h9_]; omega)) ?_
            refine AW.seqR mixed [] [none] (by kernel_rfl) fun G132 R132 hG132 hR132 => ?_
            try simp [h2_, h2__, h2q, h3, h3_, h3__, h5, h5_, h7, h7_, h9, h9_]
            repeat' apply And.intro
            any_goals (first | exact hG132 _ (by kernel_rfl) | refine hR132 _ _ _ ?_ | omega | (unfold maxLen; omega) | (simp [h2_, h2__, h2q, h3, h3_, h3__, h5, h5_, h7, h7_, h9, h9_]; done) | (simp [h2_, h2__, h2q, h3, h3_, h3__, h5, h5_, h7, h7_, h9, h9_]; omega))
            refine AW.wk [(4, AV.int .i64 15)] [] 2 (by simp [h2_, h2__, h2q, h3, h3_, h3__, h5, h5_, h7, h7_, h9, h9_]) (by simp [h2_, h2__, h2q, h3, h3_, h3__, h5, h5_, h7, h7_, h9, h9_]) (by simp) ?_
            simp only [Option.some.injEq] at hF
            subst hF
            refine AW.ret (hQ _ _ _ ?_ (matchO_0 ?_)).1
            · simp [Try.f68, h2_, h2__, h2q, h3, h3_, h3__, h5, h5_, h7, h7_, h9, h9_]
            · simp [h2_, h2__, h2q, h3, h3_, h3__, h5, h5_, h7, h7_, h9, h9_]
          · replace hF := ite_f h9 hF
            have h9_ := h9
            try simp at h9_
            refine AW.condF (by decide) (by first | (simp [h2_, h2__, h2q, h3, h3_, h3__, h5, h5_, h7, h7_, h9, h9_]; done) | (simp [h2_, h2__, h2q, h3, h3_, h3__, h5, h5_, h7, h7_, h9, h9_]; omega)) ?_
            refine AW.skip ?_
            refine hK127 _ _ _ ?_
            refine AW.seq fun K179 hK179 => ?_
            refine AW.seqR mixed [] [none, none, none, none] (by kernel_rfl) fun G180 R180 hG180 hR180 => ?_
            try simp [h2_, h2__, h2q, h3, h3_, h3__, h5, h5_, h7, h7_, h9, h9_]
            repeat' apply And.intro
            any_goals (first | exact hG180 _ (by kernel_rfl) | refine hR180 _ _ _ ?_ | omega | (unfold maxLen; omega) | (simp [h2_, h2__, h2q, h3, h3_, h3__, h5, h5_, h7, h7_, h9, h9_]; done) | (simp [h2_, h2__, h2q, h3, h3_, h3__, h5, h5_, h7, h7_, h9, h9_]; omega))
            refine AW.wk [(3, AV.ptr 1 0), (40, AV.lst false false (List.map (AV.int .i64) v4)), (41, AV.int .i64 (v4.length : Int)), (42, AV.int .i64 0)] [(1, .cells [AV.lst false false (List.map (AV.int .i64) v3), AV.lst false false (List.map (AV.int .i64) v4), AV.int .i64 v5])] 2 (by simp [h2_, h2__, h2q, h3, h3_, h3__, h5, h5_, h7, h7_, h9, h9_]) (by simp [h2_, h2__, h2q, h3, h3_, h3__, h5, h5_, h7, h7_, h9, h9_]) (by simp) ?_
            refine AW.block ?_
            refine AW.rnm (m := 0) h0 [(0, 1)] [(3, AV.ptr 0 0), (40, AV.lst false false (List.map (AV.int .i64) v4)), (41, AV.int .i64 (v4.length : Int)), (42, AV.int .i64 0)] [(0, .cells [AV.lst false false (List.map (AV.int .i64) v3), AV.lst false false (List.map (AV.int .i64) v4), AV.int .i64 v5])] 1 (by decide) (by decide) (by decide) rfl (by simp [h2_, h2__, h2q, h3, h3_, h3__, h5, h5_, h7, h7_, h9, h9_]) (by simp [h2_, h2__, h2q, h3, h3_, h3__, h5, h5_, h7, h7_, h9, h9_]) ?_
            refine AW.loopF (α := Int) (fun n v11 => capacity_Check.L1 k v4 n v11 = some v6) (fun v11 => [(3, AV.ptr 0 0), (40, AV.lst false false (List.map (AV.int .i64) v4)), (41, AV.int .i64 (v4.length : Int)), (42, AV.int .i64 v11)]) (fun v11 => [(0, .cells [AV.lst false false (List.map (AV.int .i64) v3), AV.lst false false (List.map (AV.int .i64) v4), AV.int .i64 v5])]) 1 k (0) hF (by simp [h2_, h2__, h2q, h3, h3_, h3__, h5, h5_, h7, h7_, h9, h9_]) (by simp [h2_, h2__, h2q, h3, h3_, h3__, h5, h5_, h7, h7_, h9, h9_]) (by simp) ?_
            rintro (_|n1) v11 hF K213 hK213
            · try dsimp only at hF
              rw [capacity_Check.L1] at hF; cases hF
            try dsimp only at hF
            rw [capacity_Check.L1] at hF
            refine AW.seqR mixed [] [none] (by kernel_rfl) fun G214 R214 hG214 hR214 => ?_
            try simp [h2_, h2__, h2q, h3, h3_, h3__, h5, h5_, h7, h7_, h9, h9_]
            repeat' apply And.intro
            any_goals (first | exact hG214 _ (by kernel_rfl) | refine hR214 _ _ _ ?_ | omega | (unfold maxLen; omega) | (simp [h2_, h2__, h2q, h3, h3_, h3__, h5, h5_, h7, h7_, h9, h9_]; done) | (simp [h2_, h2__, h2q, h3, h3_, h3__, h5, h5_, h7, h7_, h9, h9_]; omega))
            refine AW.wk [(3, AV.ptr 0 0), (40, AV.lst false false (List.map (AV.int .i64) v4)), (41, AV.int .i64 (v4.length : Int)), (42, AV.int .i64 v11), (43, AV.bool (decide (v11 < (v4.length : Int))))] [(0, .cells [AV.lst false false (List.map (AV.int .i64) v3), AV.lst false false (List.map (AV.int .i64) v4), AV.int .i64 v5])] 1 (by simp [h2_, h2__, h2q, h3, h3_, h3__, h5, h5_, h7, h7_, h9, h9_]) (by simp [h2_, h2__, h2q, h3, h3_, h3__, h5, h5_, h7, h7_, h9, h9_]) (by simp) ?_
            refine AW.seq fun K215 hK215 => ?_
            by_cases h10 : v11 < (v4.length : Int)
            · replace hF := ite_t h10 hF
              have h10_ := h10
              try simp at h10_
              refine AW.condT (by decide) (by first | (simp [h2_, h2__, h2q, h3, h3_, h3__, h5, h5_, h7, h7_, h9, h9_, h10, h10_]; done) | (simp [h2_, h2__, h2q, h3, h3_, h3__, h5, h5_, h7, h7_, h9, h9_, h10, h10_]; omega)) ?_
              refine AW.skip ?_
              refine hK215 _ _ _ ?_
              refine AW.midF (α := Unit) (fun _ => capacity_Check.J2 k v11 (fun v11_ => capacity_Check.L1 k v4 n1 v11_) = some v6) (fun _ => [(3, AV.ptr 0 0), (40, AV.lst false false (List.map (AV.int .i64) v4)), (41, AV.int .i64 (v4.length : Int)), (42, AV.int .i64 v11)]) (fun _ => [(0, .cells [AV.lst false false (List.map (AV.int .i64) v3), AV.lst false false (List.map (AV.int .i64) v4), AV.int .i64 v5])]) 1 (fun K221 hK221 => ?_) ?_
              · refine AW.block ?_
                refine AW.seqR mixed [] [none, none, none, none, none] (by kernel_rfl) fun G222 R222 hG222 hR222 => ?_
                obtain ⟨v12, h11, h12, h13, hF⟩ := idx_elim hF
                have h13_ := get_of h13
                try simp at h13_
                have h12_ := h12
                try simp at h12_
                try simp [h2_, h2__, h2q, h3, h3_, h3__, h5, h5_, h7, h7_, h9, h9_, h10, h10_, h11, h12, h13, h13_, h12_]
                repeat' apply And.intro
                any_goals (first | exact hG222 _ (by kernel_rfl) | refine hR222 _ _ _ ?_ | omega | (unfold maxLen; omega) | (simp [h2_, h2__, h2q, h3, h3_, h3__, h5, h5_, h7, h7_, h9, h9_, h10, h10_, h11, h12, h13, h13_, h12_]; done) | (simp [h2_, h2__, h2q, h3, h3_, h3__, h5, h5_, h7, h7_, h9, h9_, h10, h10_, h11, h12, h13, h13_, h12_]; omega))
                refine AW.wk [(3, AV.ptr 0 0), (6, AV.int .i64 v11), (7, AV.int .i64 v12), (40, AV.lst false false (List.map (AV.int .i64) v4)), (41, AV.int .i64 (v4.length : Int)), (42, AV.int .i64 v11)] [(0, .cells [AV.lst false false (List.map (AV.int .i64) v3), AV.lst false false (List.map (AV.int .i64) v4), AV.int .i64 v5])] 1 (by simp [h2_, h2__, h2q, h3, h3_, h3__, h5, h5_, h7, h7_, h9, h9_, h10, h10_, h11, h12, h13, h13_, h12_]) (by simp [h2_, h2__, h2q, h3, h3_, h3__, h5, h5_, h7, h7_, h9, h9_, h10, h10_, h11, h12, h13, h13_, h12_]) (by simp) ?_
                refine AW.seqR mixed [] [none, none, none, none, some (50, false), some (50, false), some (50, false), some (53, true), some (53, true), some (53, true), some (53, true), some (53, true), some (53, true), some (53, true), some (53, true), some (50, false), none] (by kernel_rfl) fun G223 R223 hG223 hR223 => ?_
                try simp [h2_, h2__, h2q, h3, h3_, h3__, h5, h5_, h7, h7_, h9, h9_, h10, h10_, h11, h12, h13, h13_, h12_]
                repeat' apply And.intro
                try any_goals (first | omega | (unfold maxLen; omega) | (simp [h2_, h2__, h2q, h3, h3_, h3__, h5, h5_, h7, h7_, h9, h9_, h10, h10_, h11, h12, h13, h13_, h12_]; done))
                obtain ⟨v13, h14, hF⟩ := bnd1_elim hF
                refine aCall_l (w_lists_In k _ _ _ _ h14) (by simp) [] [] [] rfl (.cons (.same (by simp [h2_, h2__, h2q, h3, h3_, h3__, h5, h5_, h7, h7_, h9, h9_, h10, h10_, h11, h12, h13, h13_, h12_])) (.cons (.same (by simp [h2_, h2__, h2q, h3, h3_, h3__, h5, h5_, h7, h7_, h9, h9_, h10, h10_, h11, h12, h13, h13_, h12_])) (.cons (.same (by simp [h2_, h2__, h2q, h3, h3_, h3__, h5, h5_, h7, h7_, h9, h9_, h10, h10_, h11, h12, h13, h13_, h12_])) .nil))) (by simp [h2_, h2__, h2q, h3, h3_, h3__, h5, h5_, h7, h7_, h9, h9_, h10, h10_, h11, h12, h13, h13_, h12_]) (by decide) (by simp) (by simp) (.inl rfl) (by simp) (by simp) ?_
                by_cases h15 : (!v13) = true
                · replace hF := ite_t h15 hF
                  have h15_ := h15
                  try simp at h15_
                  try simp [h2_, h2__, h2q, h3, h3_, h3__, h5, h5_, h7, h7_, h9, h9_, h10, h10_, h11, h12, h13, h13_, h12_, h15, h15_]
                  repeat' apply And.intro
                  any_goals (first | exact hG223 _ (by kernel_rfl) | refine hR223 _ _ _ ?_ | omega | (unfold maxLen; omega) | (simp [h2_, h2__, h2q, h3, h3_, h3__, h5, h5_, h7, h7_, h9, h9_, h10, h10_, h11, h12, h13, h13_, h12_, h15, h15_]; done) | (simp [h2_, h2__, h2q, h3, h3_, h3__, h5, h5_, h7, h7_, h9, h9_, h10, h10_, h11, h12, h13, h13_, h12_, h15, h15_]; omega))
                  refine AW.wk [(3, AV.ptr 0 0), (40, AV.lst false false (List.map (AV.int .i64) v4)), (41, AV.int .i64 (v4.length : Int)), (42, AV.int .i64 v11), (63, AV.bool true)] [(0, .cells [AV.lst false false (List.map (AV.int .i64) v3), AV.lst false false (List.map (AV.int .i64) v4), AV.int .i64 v5])] 1 (by simp [h2_, h2__, h2q, h3, h3_, h3__, h5, h5_, h7, h7_, h9, h9_, h10, h10_, h11, h12, h13, h13_, h12_, h15, h15_]) (by simp [h2_, h2__, h2q, h3, h3_, h3__, h5, h5_, h7, h7_, h9, h9_, h10, h10_, h11, h12, h13, h13_, h12_, h15, h15_]) (by simp) ?_
                  refine AW.condT (by decide) (by simp [h2_, h2__, h2q, h3, h3_, h3__, h5, h5_, h7, h7_, h9, h9_, h10, h10_, h11, h12, h13, h13_, h12_, h15, h15_]) ?_
                  refine AW.seqR mixed [] [none] (by kernel_rfl) fun G224 R224 hG224 hR224 => ?_
                  try simp [h2_, h2__, h2q, h3, h3_, h3__, h5, h5_, h7, h7_, h9, h9_, h10, h10_, h11, h12, h13, h13_, h12_, h15, h15_]
                  repeat' apply And.intro
                  any_goals (first | exact hG224 _ (by kernel_rfl) | refine hR224 _ _ _ ?_ | omega | (unfold maxLen; omega) | (simp [h2_, h2__, h2q, h3, h3_, h3__, h5, h5_, h7, h7_, h9, h9_, h10, h10_, h11, h12, h13, h13_, h12_, h15, h15_]; done) | (simp [h2_, h2__, h2q, h3, h3_, h3__, h5, h5_, h7, h7_, h9, h9_, h10, h10_, h11, h12, h13, h13_, h12_, h15, h15_]; omega))
                  refine AW.wk [(4, AV.int .i64 15)] [] 1 (by simp [h2_, h2__, h2q, h3, h3_, h3__, h5, h5_, h7, h7_, h9, h9_, h10, h10_, h11, h12, h13, h13_, h12_, h15, h15_]) (by simp [h2_, h2__, h2q, h3, h3_, h3__, h5, h5_, h7, h7_, h9, h9_, h10, h10_, h11, h12, h13, h13_, h12_, h15, h15_]) (by simp) ?_
                  simp only [Option.some.injEq] at hF
                  subst hF
                  refine AW.ret (hQ _ _ _ ?_ (matchO_0 ?_)).1
                  · simp [Try.f68, h2_, h2__, h2q, h3, h3_, h3__, h5, h5_, h7, h7_, h9, h9_, h10, h10_, h11, h12, h13, h13_, h12_, h15, h15_]
                  · simp [h2_, h2__, h2q, h3, h3_, h3__, h5, h5_, h7, h7_, h9, h9_, h10, h10_, h11, h12, h13, h13_, h12_, h15, h15_]
                · replace hF := ite_f h15 hF
                  have h15_ := h15
                  try simp at h15_
                  by_cases h16 : 0 < v11
                  · replace hF := ite_t h16 hF
                    have h16_ := h16
                    try simp at h16_
                    obtain ⟨v14, h17, h18, h19, hF⟩ := idx_elim hF
                    have h19_ := get_of h19
                    try simp at h19_
                    have h18_ := h18
                    try simp at h18_
                    try simp [h2_, h2__, h2q, h3, h3_, h3__, h5, h5_, h7, h7_, h9, h9_, h10, h10_, h11, h12, h13, h13_, h12_, h15, h15_, h16, h16_, h17, h18, h19, h19_, h18_]
                    repeat' apply And.intro
                    any_goals (first | exact hG223 _ (by kernel_rfl) | refine hR223 _ _ _ ?_ | omega | (unfold maxLen; omega) | (simp [h2_, h2__, h2q, h3, h3_, h3__, h5, h5_, h7, h7_, h9, h9_, h10, h10_, h11, h12, h13, h13_, h12_, h15, h15_, h16, h16_, h17, h18, h19, h19_, h18_]; done) | (simp [h2_, h2__, h2q, h3, h3_, h3__, h5, h5_, h7, h7_, h9, h9_, h10, h10_, h11, h12, h13, h13_, h12_, h15, h15_, h16, h16_, h17, h18, h19, h19_, h18_]; omega))
                    refine AW.wk [(3, AV.ptr 0 0), (40, AV.lst false false (List.map (AV.int .i64) v4)), (41, AV.int .i64 (v4.length : Int)), (42, AV.int .i64 v11), (63, AV.bool (decide (v14 < v12)))] [(0, .cells [AV.lst false false (List.map (AV.int .i64) v3), AV.lst false false (List.map (AV.int .i64) v4), AV.int .i64 v5])] 1 (by simp [h2_, h2__, h2q, h3, h3_, h3__, h5, h5_, h7, h7_, h9, h9_, h10, h10_, h11, h12, h13, h13_, h12_, h15, h15_, h16, h16_, h17, h18, h19, h19_, h18_]) (by simp [h2_, h2__, h2q, h3, h3_, h3__, h5, h5_, h7, h7_, h9, h9_, h10, h10_, h11, h12, h13, h13_, h12_, h15, h15_, h16, h16_, h17, h18, h19, h19_, h18_]) (by simp) ?_
                    by_cases h20 : v14 < v12
                    · replace hF := ite_t h20 hF
                      have h20_ := h20
                      try simp at h20_
                      refine AW.condT (by decide) (by first | (simp [h2_, h2__, h2q, h3, h3_, h3__, h5, h5_, h7, h7_, h9, h9_, h10, h10_, h11, h12, h13, h13_, h12_, h15, h15_, h16, h16_, h17, h18, h19, h19_, h18_, h20, h20_]; done) | (simp [h2_, h2__, h2q, h3, h3_, h3__, h5, h5_, h7, h7_, h9, h9_, h10, h10_, h11, h12, h13, h13_, h12_, h15, h15_, h16, h16_, h17, h18, h19, h19_, h18_, h20, h20_]; omega)) ?_
                      refine AW.seqR mixed [] [none] (by kernel_rfl) fun G225 R225 hG225 hR225 => ?_
                      try simp [h2_, h2__, h2q, h3, h3_, h3__, h5, h5_, h7, h7_, h9, h9_, h10, h10_, h11, h12, h13, h13_, h12_, h15, h15_, h16, h16_, h17, h18, h19, h19_, h18_, h20, h20_]
                      repeat' apply And.intro
                      any_goals (first | exact hG225 _ (by kernel_rfl) | refine hR225 _ _ _ ?_ | omega | (unfold maxLen; omega) | (simp [h2_, h2__, h2q, h3, h3_, h3__, h5, h5_, h7, h7_, h9, h9_, h10, h10_, h11, h12, h13, h13_, h12_, h15, h15_, h16, h16_, h17, h18, h19, h19_, h18_, h20, h20_]; done) | (simp [h2_, h2__, h2q, h3, h3_, h3__, h5, h5_, h7, h7_, h9, h9_, h10, h10_, h11, h12, h13, h13_, h12_, h15, h15_, h16, h16_, h17, h18, h19, h19_, h18_, h20, h20_]; omega))
                      refine AW.wk [(4, AV.int .i64 15)] [] 1 (by simp [h2_, h2__, h2q, h3, h3_, h3__, h5, h5_, h7, h7_, h9, h9_, h10, h10_, h11, h12, h13, h13_, h12_, h15, h15_, h16, h16_, h17, h18, h19, h19_, h18_, h20, h20_]) (by simp [h2_, h2__, h2q, h3, h3_, h3__, h5, h5_, h7, h7_, h9, h9_, h10, h10_, h11, h12, h13, h13_, h12_, h15, h15_, h16, h16_, h17, h18, h19, h19_, h18_, h20, h20_]) (by simp) ?_
                      simp only [Option.some.injEq] at hF
                      subst hF
                      refine AW.ret (hQ _ _ _ ?_ (matchO_0 ?_)).1
                      · simp [Try.f68, h2_, h2__, h2q, h3, h3_, h3__, h5, h5_, h7, h7_, h9, h9_, h10, h10_, h11, h12, h13, h13_, h12_, h15, h15_, h16, h16_, h17, h18, h19, h19_, h18_, h20, h20_]
                      · simp [h2_, h2__, h2q, h3, h3_, h3__, h5, h5_, h7, h7_, h9, h9_, h10, h10_, h11, h12, h13, h13_, h12_, h15, h15_, h16, h16_, h17, h18, h19, h19_, h18_, h20, h20_]
                    · replace hF := ite_f h20 hF
                      have h20_ := h20
                      try simp at h20_
                      refine AW.condF (by decide) (by first | (simp [h2_, h2__, h2q, h3, h3_, h3__, h5, h5_, h7, h7_, h9, h9_, h10, h10_, h11, h12, h13, h13_, h12_, h15, h15_, h16, h16_, h17, h18, h19, h19_, h18_, h20, h20_]; done) | (simp [h2_, h2__, h2q, h3, h3_, h3__, h5, h5_, h7, h7_, h9, h9_, h10, h10_, h11, h12, h13, h13_, h12_, h15, h15_, h16, h16_, h17, h18, h19, h19_, h18_, h20, h20_]; omega)) ?_
                      refine AW.skip ?_
                      refine hK221 _ _ _ ?_
                      exact Can.join (()) hF (by simp [h2_, h2__, h2q, h3, h3_, h3__, h5, h5_, h7, h7_, h9, h9_, h10, h10_, h11, h12, h13, h13_, h12_, h15, h15_, h16, h16_, h17, h18, h19, h19_, h18_, h20, h20_]) (by simp [h2_, h2__, h2q, h3, h3_, h3__, h5, h5_, h7, h7_, h9, h9_, h10, h10_, h11, h12, h13, h13_, h12_, h15, h15_, h16, h16_, h17, h18, h19, h19_, h18_, h20, h20_]) (by simp)
                  · replace hF := ite_f h16 hF
                    have h16_ := h16
                    try simp at h16_
                    try simp [h2_, h2__, h2q, h3, h3_, h3__, h5, h5_, h7, h7_, h9, h9_, h10, h10_, h11, h12, h13, h13_, h12_, h15, h15_, h16, h16_]
                    repeat' apply And.intro
                    any_goals (first | exact hG223 _ (by kernel_rfl) | refine hR223 _ _ _ ?_ | omega | (unfold maxLen; omega) | (simp [h2_, h2__, h2q, h3, h3_, h3__, h5, h5_, h7, h7_, h9, h9_, h10, h10_, h11, h12, h13, h13_, h12_, h15, h15_, h16, h16_]; done) | (simp [h2_, h2__, h2q, h3, h3_, h3__, h5, h5_, h7, h7_, h9, h9_, h10, h10_, h11, h12, h13, h13_, h12_, h15, h15_, h16, h16_]; omega))
                    refine AW.wk [(3, AV.ptr 0 0), (40, AV.lst false false (List.map (AV.int .i64) v4)), (41, AV.int .i64 (v4.length : Int)), (42, AV.int .i64 v11), (63, AV.bool false)] [(0, .cells [AV.lst false false (List.map (AV.int .i64) v3), AV.lst false false (List.map (AV.int .i64) v4), AV.int .i64 v5])] 1 (by simp [h2_, h2__, h2q, h3, h3_, h3__, h5, h5_, h7, h7_, h9, h9_, h10, h10_, h11, h12, h13, h13_, h12_, h15, h15_, h16, h16_]) (by simp [h2_, h2__, h2q, h3, h3_, h3__, h5, h5_, h7, h7_, h9, h9_, h10, h10_, h11, h12, h13, h13_, h12_, h15, h15_, h16, h16_]) (by simp) ?_
                    refine AW.condF (by decide) (by simp [h2_, h2__, h2q, h3, h3_, h3__, h5, h5_, h7, h7_, h9, h9_, h10, h10_, h11, h12, h13, h13_, h12_, h15, h15_, h16, h16_]) ?_
                    refine AW.skip ?_
                    refine hK221 _ _ _ ?_
                    exact Can.join (()) hF (by simp [h2_, h2__, h2q, h3, h3_, h3__, h5, h5_, h7, h7_, h9, h9_, h10, h10_, h11, h12, h13, h13_, h12_, h15, h15_, h16, h16_]) (by simp [h2_, h2__, h2q, h3, h3_, h3__, h5, h5_, h7, h7_, h9, h9_, h10, h10_, h11, h12, h13, h13_, h12_, h15, h15_, h16, h16_]) (by simp)
              · rintro ⟨⟩ hF
                try dsimp only at hF
                unfold capacity_Check.J2 at hF
                refine AW.region mixed [] [none, none] (by kernel_rfl) fun G220 R220 hG220 hR220 => ?_
                try simp [h2_, h2__, h2q, h3, h3_, h3__, h5, h5_, h7, h7_, h9, h9_, h10, h10_]
                repeat' apply And.intro
                any_goals (first | exact hG220 _ (by kernel_rfl) | refine hR220 _ _ _ ?_ | omega | (unfold maxLen; omega) | (simp [h2_, h2__, h2q, h3, h3_, h3__, h5, h5_, h7, h7_, h9, h9_, h10, h10_]; done) | (simp [h2_, h2__, h2q, h3, h3_, h3__, h5, h5_, h7, h7_, h9, h9_, h10, h10_]; omega))
                refine hK213 _ _ _ ?_
                refine Can.weak [(3, AV.ptr 0 0), (40, AV.lst false false (List.map (AV.int .i64) v4)), (41, AV.int .i64 (v4.length : Int)), (42, AV.int .i64 (IntKind.wrap .i64 (v11 + 1)))] [(0, .cells [AV.lst false false (List.map (AV.int .i64) v3), AV.lst false false (List.map (AV.int .i64) v4), AV.int .i64 v5])] 1 (by simp [h2_, h2__, h2q, h3, h3_, h3__, h5, h5_, h7, h7_, h9, h9_, h10, h10_]) (by simp [h2_, h2__, h2q, h3, h3_, h3__, h5, h5_, h7, h7_, h9, h9_, h10, h10_]) (by simp) ?_
                exact Can.next (k' := n1) (IntKind.wrap .i64 (v11 + 1)) (by omega) hF (by simp [h2_, h2__, h2q, h3, h3_, h3__, h5, h5_, h7, h7_, h9, h9_, h10, h10_]) (by simp [h2_, h2__, h2q, h3, h3_, h3__, h5, h5_, h7, h7_, h9, h9_, h10, h10_]) (by simp)
            · replace hF := ite_f h10 hF
              have h10_ := h10
              try simp at h10_
              refine AW.condF (by decide) (by first | (simp [h2_, h2__, h2q, h3, h3_, h3__, h5, h5_, h7, h7_, h9, h9_, h10, h10_]; done) | (simp [h2_, h2__, h2q, h3, h3_, h3__, h5, h5_, h7, h7_, h9, h9_, h10, h10_]; omega)) ?_
              refine AW.exit ?_
              try simp
              refine hK179 _ _ _ ?_
              refine AW.seqR mixed [] [none] (by kernel_rfl) fun G226 R226 hG226 hR226 => ?_
              try simp [h2_, h2__, h2q, h3, h3_, h3__, h5, h5_, h7, h7_, h9, h9_, h10, h10_]
              repeat' apply And.intro
              any_goals (first | exact hG226 _ (by kernel_rfl) | refine hR226 _ _ _ ?_ | omega | (unfold maxLen; omega) | (simp [h2_, h2__, h2q, h3, h3_, h3__, h5, h5_, h7, h7_, h9, h9_, h10, h10_]; done) | (simp [h2_, h2__, h2q, h3, h3_, h3__, h5, h5_, h7, h7_, h9, h9_, h10, h10_]; omega))
              refine AW.wk [(4, AV.int .i64 0)] [] 1 (by simp [h2_, h2__, h2q, h3, h3_, h3__, h5, h5_, h7, h7_, h9, h9_, h10, h10_]) (by simp [h2_, h2__, h2q, h3, h3_, h3__, h5, h5_, h7, h7_, h9, h9_, h10, h10_]) (by simp) ?_
              simp only [Option.some.injEq] at hF
              subst hF
              refine AW.ret (hQ _ _ _ ?_ (matchO_0 ?_)).1
              · simp [Try.f68, h2_, h2__, h2q, h3, h3_, h3__, h5, h5_, h7, h7_, h9, h9_, h10, h10_]
              · simp [h2_, h2__, h2q, h3, h3_, h3__, h5, h5_, h7, h7_, h9, h9_, h10, h10_]
set_option maxHeartbeats 4000000 in
theorem w_roster_Check (k : Nat) (v0 : (List Int)) (v1 : (List Int)) (v2 : (List Int)) (v3 : Int) (v4 : Int) (v5 : Int) (v6 : Int) (v7 : Int) (hF : roster_Check k v0 v1 v2 v3 v4 v5 v6 = some v7) :
    FCall Try.prog 20 [AV.agg [AV.lst false false (List.map (AV.int .i64) v0), AV.lst false false (List.map (AV.int .i64) v1), AV.lst false false (List.map (AV.int .i64) v2), AV.int .i64 v3, AV.int .i64 v4, AV.int .i64 v5, AV.int .i64 v6]] [] (AV.int .i64 v7) [] := by
  unfold roster_Check at hF
  refine FCall.enter Try.func20 rfl (by simp) (by decide) (by simp) (by simp) (by simp) (by simp) (by simp) ?_
  intro c0 w0 Q h0 hQ
  refine AW.wk [(0, AV.agg [AV.lst false false (List.map (AV.int .i64) v0), AV.lst false false (List.map (AV.int .i64) v1), AV.lst false false (List.map (AV.int .i64) v2), AV.int .i64 v3, AV.int .i64 v4, AV.int .i64 v5, AV.int .i64 v6])] [] 0 (by simp) (by simp) (by simp) ?_
  refine AW.seqR mixed [] [none, none] (by kernel_rfl) fun G30 R30 hG30 hR30 => ?_
  try simp
  repeat' apply And.intro
  any_goals (first | exact hG30 _ (by kernel_rfl) | refine hR30 _ _ _ ?_ | omega | (unfold maxLen; omega) | (simp; done) | (simp; omega))
  refine AW.wk [(1, AV.ptr 0 0)] [(0, .cells [AV.lst false false (List.map (AV.int .i64) v0), AV.lst false false (List.map (AV.int .i64) v1), AV.lst false false (List.map (AV.int .i64) v2), AV.int .i64 v3, AV.int .i64 v4, AV.int .i64 v5, AV.int .i64 v6])] 1 (by simp) (by simp) (by simp) ?_
  refine AW.seq fun K33 hK33 => ?_
  refine AW.seqR mixed [] [none, none, none, none] (by kernel_rfl) fun G34 R34 hG34 hR34 => ?_
  try simp
  repeat' apply And.intro
  try any_goals (first | omega | (unfold maxLen; omega) | (simp; done))
  obtain ⟨v8, h1, hF⟩ := bnd1_elim hF
  refine aCall_l (w_roster_Valid k _ _ h1) (by simp) [] [] [] rfl (.cons (.same (by simp)) .nil) (by simp) (by decide) (by simp) (by simp) (.inl rfl) (by simp) (by simp) ?_
  try simp
  repeat' apply And.intro
  any_goals (first | exact hG34 _ (by kernel_rfl) | refine hR34 _ _ _ ?_ | omega | (unfold maxLen; omega) | (simp; done) | (simp; omega))
  refine AW.wk [(1, AV.ptr 0 0), (7, AV.bool (!v8))] [(0, .cells [AV.lst false false (List.map (AV.int .i64) v0), AV.lst false false (List.map (AV.int .i64) v1), AV.lst false false (List.map (AV.int .i64) v2), AV.int .i64 v3, AV.int .i64 v4, AV.int .i64 v5, AV.int .i64 v6])] 1 (by simp) (by simp) (by simp) ?_
  by_cases h2 : (!v8) = true
  · replace hF := ite_t h2 hF
    have h2_ := h2
    try simp at h2_
    refine AW.condT (by decide) (by first | (simp [h2, h2_]; done) | (simp [h2, h2_]; omega)) ?_
    refine AW.seqR mixed [] [none] (by kernel_rfl) fun G35 R35 hG35 hR35 => ?_
    try simp [h2, h2_]
    repeat' apply And.intro
    any_goals (first | exact hG35 _ (by kernel_rfl) | refine hR35 _ _ _ ?_ | omega | (unfold maxLen; omega) | (simp [h2, h2_]; done) | (simp [h2, h2_]; omega))
    refine AW.wk [(2, AV.int .i64 43)] [] 1 (by simp [h2, h2_]) (by simp [h2, h2_]) (by simp) ?_
    simp only [Option.some.injEq] at hF
    subst hF
    refine AW.ret (hQ _ _ _ ?_ (matchO_0 ?_)).1
    · simp [Try.f20, h2, h2_]
    · simp [h2, h2_]
  · replace hF := ite_f h2 hF
    have h2_ := h2
    try simp at h2_
    refine AW.condF (by decide) (by first | (simp [h2, h2_]; done) | (simp [h2, h2_]; omega)) ?_
    refine AW.skip ?_
    refine hK33 _ _ _ ?_
    refine AW.seq fun K39 hK39 => ?_
    refine AW.seqR mixed [] [none, none, none, none, none] (by kernel_rfl) fun G40 R40 hG40 hR40 => ?_
    try simp [h2, h2_]
    repeat' apply And.intro
    try any_goals (first | omega | (unfold maxLen; omega) | (simp [h2, h2_]; done))
    obtain ⟨v9, h3, hF⟩ := bnd1_elim hF
    refine aCall_l (w_capacity_Check k _ _ _ _ _ _ _ h3) (by simp) [] [] [] rfl (.cons (.agg (.cons (.same (by simp [h2, h2_])) (.cons (Coe.fl (by simp [h2, h2_])) (.cons (Coe.fl (by simp [h2, h2_])) .nil)))) (.cons (.same (by simp [h2, h2_])) .nil)) (by simp [h2, h2_]) (by decide) (by simp) (by simp) (.inl rfl) (by simp) (by simp) ?_
    try simp [h2, h2_]
    repeat' apply And.intro
    any_goals (first | exact hG40 _ (by kernel_rfl) | refine hR40 _ _ _ ?_ | omega | (unfold maxLen; omega) | (simp [h2, h2_]; done) | (simp [h2, h2_]; omega))
    refine AW.wk [(1, AV.ptr 0 0), (3, AV.int .i64 v9)] [(0, .cells [AV.lst false false (List.map (AV.int .i64) v0), AV.lst false false (List.map (AV.int .i64) v1), AV.lst false false (List.map (AV.int .i64) v2), AV.int .i64 v3, AV.int .i64 v4, AV.int .i64 v5, AV.int .i64 v6])] 1 (by simp [h2, h2_]) (by simp [h2, h2_]) (by simp) ?_
    refine AW.seqR mixed [] [none, none] (by kernel_rfl) fun G41 R41 hG41 hR41 => ?_
    try simp [h2, h2_]
    repeat' apply And.intro
    any_goals (first | exact hG41 _ (by kernel_rfl) | refine hR41 _ _ _ ?_ | omega | (unfold maxLen; omega) | (simp [h2, h2_]; done) | (simp [h2, h2_]; omega))
    refine AW.wk [(1, AV.ptr 0 0), (3, AV.int .i64 v9), (13, AV.bool (v9 != 0))] [(0, .cells [AV.lst false false (List.map (AV.int .i64) v0), AV.lst false false (List.map (AV.int .i64) v1), AV.lst false false (List.map (AV.int .i64) v2), AV.int .i64 v3, AV.int .i64 v4, AV.int .i64 v5, AV.int .i64 v6])] 1 (by simp [h2, h2_]) (by simp [h2, h2_]) (by simp) ?_
    by_cases h4 : v9 ≠ 0
    · replace hF := ite_t h4 hF
      have h4_ := eqb_f h4
      have h4__ := neb_t h4
      refine AW.condT (by decide) (by first | (simp [h2, h2_, h4, h4_, h4__]; done) | (simp [h2, h2_, h4, h4_, h4__]; omega)) ?_
      refine AW.seqR mixed [] [none, none] (by kernel_rfl) fun G42 R42 hG42 hR42 => ?_
      try simp [h2, h2_, h4, h4_, h4__]
      repeat' apply And.intro
      any_goals (first | exact hG42 _ (by kernel_rfl) | refine hR42 _ _ _ ?_ | omega | (unfold maxLen; omega) | (simp [h2, h2_, h4, h4_, h4__]; done) | (simp [h2, h2_, h4, h4_, h4__]; omega))
      refine AW.wk [(2, AV.int .i64 v9)] [] 1 (by simp [h2, h2_, h4, h4_, h4__]) (by simp [h2, h2_, h4, h4_, h4__]) (by simp) ?_
      simp only [Option.some.injEq] at hF
      subst hF
      refine AW.ret (hQ _ _ _ ?_ (matchO_0 ?_)).1
      · simp [Try.f20, h2, h2_, h4, h4_, h4__]
      · simp [h2, h2_, h4, h4_, h4__]
    · replace hF := ite_f h4 hF
      have h4q : v9 = 0 := Classical.not_not.1 h4
      have h4_ := eqb_t h4q
      have h4__ := neb_f h4q
      refine AW.condF (by decide) (by first | (simp [h2, h2_, h4_, h4__, h4q]; done) | (simp [h2, h2_, h4_, h4__, h4q]; omega)) ?_
      refine AW.skip ?_
      refine hK39 _ _ _ ?_
      refine AW.seq fun K50 hK50 => ?_
      refine AW.seqR mixed [] [none, none, none, none, some (18, false), some (18, false), some (18, false), none, none, some (23, false), some (23, false), some (23, false), none, none, some (28, false), some (28, false), some (28, false), none, none, some (33, false), some (33, false), some (33, false), none, none, some (38, false), some (38, false), some (38, false), none] (by kernel_rfl) fun G51 R51 hG51 hR51 => ?_
      by_cases h5 : v4 < 1
      · replace hF := ite_t h5 hF
        have h5_ := h5
        try simp at h5_
        try simp [h2, h2_, h4_, h4__, h4q, h5, h5_]
        repeat' apply And.intro
        any_goals (first | exact hG51 _ (by kernel_rfl) | refine hR51 _ _ _ ?_ | omega | (unfold maxLen; omega) | (simp [h2, h2_, h4_, h4__, h4q, h5, h5_]; done) | (simp [h2, h2_, h4_, h4__, h4q, h5, h5_]; omega))
        refine AW.wk [(42, AV.bool true)] [] 1 (by simp [h2, h2_, h4_, h4__, h4q, h5, h5_]) (by simp [h2, h2_, h4_, h4__, h4q, h5, h5_]) (by simp) ?_
        refine AW.condT (by decide) (by simp [h2, h2_, h4_, h4__, h4q, h5, h5_]) ?_
        refine AW.seqR mixed [] [none] (by kernel_rfl) fun G52 R52 hG52 hR52 => ?_
        try simp [h2, h2_, h4_, h4__, h4q, h5, h5_]
        repeat' apply And.intro
        any_goals (first | exact hG52 _ (by kernel_rfl) | refine hR52 _ _ _ ?_ | omega | (unfold maxLen; omega) | (simp [h2, h2_, h4_, h4__, h4q, h5, h5_]; done) | (simp [h2, h2_, h4_, h4__, h4q, h5, h5_]; omega))
        refine AW.wk [(2, AV.int .i64 40)] [] 1 (by simp [h2, h2_, h4_, h4__, h4q, h5, h5_]) (by simp [h2, h2_, h4_, h4__, h4q, h5, h5_]) (by simp) ?_
        simp only [Option.some.injEq] at hF
        subst hF
        refine AW.ret (hQ _ _ _ ?_ (matchO_0 ?_)).1
        · simp [Try.f20, h2, h2_, h4_, h4__, h4q, h5, h5_]
        · simp [h2, h2_, h4_, h4__, h4q, h5, h5_]
      · replace hF := ite_f h5 hF
        have h5_ := h5
        try simp at h5_
        by_cases h6 : 9 < v4
        · replace hF := ite_t h6 hF
          have h6_ := h6
          try simp at h6_
          try simp [h2, h2_, h4_, h4__, h4q, h5, h5_, h6, h6_]
          repeat' apply And.intro
          any_goals (first | exact hG51 _ (by kernel_rfl) | refine hR51 _ _ _ ?_ | omega | (unfold maxLen; omega) | (simp [h2, h2_, h4_, h4__, h4q, h5, h5_, h6, h6_]; done) | (simp [h2, h2_, h4_, h4__, h4q, h5, h5_, h6, h6_]; omega))
          refine AW.wk [(42, AV.bool true)] [] 1 (by simp [h2, h2_, h4_, h4__, h4q, h5, h5_, h6, h6_]) (by simp [h2, h2_, h4_, h4__, h4q, h5, h5_, h6, h6_]) (by simp) ?_
          refine AW.condT (by decide) (by simp [h2, h2_, h4_, h4__, h4q, h5, h5_, h6, h6_]) ?_
          refine AW.seqR mixed [] [none] (by kernel_rfl) fun G53 R53 hG53 hR53 => ?_
          try simp [h2, h2_, h4_, h4__, h4q, h5, h5_, h6, h6_]
          repeat' apply And.intro
          any_goals (first | exact hG53 _ (by kernel_rfl) | refine hR53 _ _ _ ?_ | omega | (unfold maxLen; omega) | (simp [h2, h2_, h4_, h4__, h4q, h5, h5_, h6, h6_]; done) | (simp [h2, h2_, h4_, h4__, h4q, h5, h5_, h6, h6_]; omega))
          refine AW.wk [(2, AV.int .i64 40)] [] 1 (by simp [h2, h2_, h4_, h4__, h4q, h5, h5_, h6, h6_]) (by simp [h2, h2_, h4_, h4__, h4q, h5, h5_, h6, h6_]) (by simp) ?_
          simp only [Option.some.injEq] at hF
          subst hF
          refine AW.ret (hQ _ _ _ ?_ (matchO_0 ?_)).1
          · simp [Try.f20, h2, h2_, h4_, h4__, h4q, h5, h5_, h6, h6_]
          · simp [h2, h2_, h4_, h4__, h4q, h5, h5_, h6, h6_]
        · replace hF := ite_f h6 hF
          have h6_ := h6
          try simp at h6_
          by_cases h7 : v5 < 1
          · replace hF := ite_t h7 hF
            have h7_ := h7
            try simp at h7_
            try simp [h2, h2_, h4_, h4__, h4q, h5, h5_, h6, h6_, h7, h7_]
            repeat' apply And.intro
            any_goals (first | exact hG51 _ (by kernel_rfl) | refine hR51 _ _ _ ?_ | omega | (unfold maxLen; omega) | (simp [h2, h2_, h4_, h4__, h4q, h5, h5_, h6, h6_, h7, h7_]; done) | (simp [h2, h2_, h4_, h4__, h4q, h5, h5_, h6, h6_, h7, h7_]; omega))
            refine AW.wk [(42, AV.bool true)] [] 1 (by simp [h2, h2_, h4_, h4__, h4q, h5, h5_, h6, h6_, h7, h7_]) (by simp [h2, h2_, h4_, h4__, h4q, h5, h5_, h6, h6_, h7, h7_]) (by simp) ?_
            refine AW.condT (by decide) (by simp [h2, h2_, h4_, h4__, h4q, h5, h5_, h6, h6_, h7, h7_]) ?_
            refine AW.seqR mixed [] [none] (by kernel_rfl) fun G54 R54 hG54 hR54 => ?_
            try simp [h2, h2_, h4_, h4__, h4q, h5, h5_, h6, h6_, h7, h7_]
            repeat' apply And.intro
            any_goals (first | exact hG54 _ (by kernel_rfl) | refine hR54 _ _ _ ?_ | omega | (unfold maxLen; omega) | (simp [h2, h2_, h4_, h4__, h4q, h5, h5_, h6, h6_, h7, h7_]; done) | (simp [h2, h2_, h4_, h4__, h4q, h5, h5_, h6, h6_, h7, h7_]; omega))
            refine AW.wk [(2, AV.int .i64 40)] [] 1 (by simp [h2, h2_, h4_, h4__, h4q, h5, h5_, h6, h6_, h7, h7_]) (by simp [h2, h2_, h4_, h4__, h4q, h5, h5_, h6, h6_, h7, h7_]) (by simp) ?_
            simp only [Option.some.injEq] at hF
            subst hF
            refine AW.ret (hQ _ _ _ ?_ (matchO_0 ?_)).1
            · simp [Try.f20, h2, h2_, h4_, h4__, h4q, h5, h5_, h6, h6_, h7, h7_]
            · simp [h2, h2_, h4_, h4__, h4q, h5, h5_, h6, h6_, h7, h7_]
          · replace hF := ite_f h7 hF
            have h7_ := h7
            try simp at h7_
            by_cases h8 : 1000000 < v5
            · replace hF := ite_t h8 hF
              have h8_ := h8
              try simp at h8_
              try simp [h2, h2_, h4_, h4__, h4q, h5, h5_, h6, h6_, h7, h7_, h8, h8_]
              repeat' apply And.intro
              any_goals (first | exact hG51 _ (by kernel_rfl) | refine hR51 _ _ _ ?_ | omega | (unfold maxLen; omega) | (simp [h2, h2_, h4_, h4__, h4q, h5, h5_, h6, h6_, h7, h7_, h8, h8_]; done) | (simp [h2, h2_, h4_, h4__, h4q, h5, h5_, h6, h6_, h7, h7_, h8, h8_]; omega))
              refine AW.wk [(42, AV.bool true)] [] 1 (by simp [h2, h2_, h4_, h4__, h4q, h5, h5_, h6, h6_, h7, h7_, h8, h8_]) (by simp [h2, h2_, h4_, h4__, h4q, h5, h5_, h6, h6_, h7, h7_, h8, h8_]) (by simp) ?_
              refine AW.condT (by decide) (by simp [h2, h2_, h4_, h4__, h4q, h5, h5_, h6, h6_, h7, h7_, h8, h8_]) ?_
              refine AW.seqR mixed [] [none] (by kernel_rfl) fun G55 R55 hG55 hR55 => ?_
              try simp [h2, h2_, h4_, h4__, h4q, h5, h5_, h6, h6_, h7, h7_, h8, h8_]
              repeat' apply And.intro
              any_goals (first | exact hG55 _ (by kernel_rfl) | refine hR55 _ _ _ ?_ | omega | (unfold maxLen; omega) | (simp [h2, h2_, h4_, h4__, h4q, h5, h5_, h6, h6_, h7, h7_, h8, h8_]; done) | (simp [h2, h2_, h4_, h4__, h4q, h5, h5_, h6, h6_, h7, h7_, h8, h8_]; omega))
              refine AW.wk [(2, AV.int .i64 40)] [] 1 (by simp [h2, h2_, h4_, h4__, h4q, h5, h5_, h6, h6_, h7, h7_, h8, h8_]) (by simp [h2, h2_, h4_, h4__, h4q, h5, h5_, h6, h6_, h7, h7_, h8, h8_]) (by simp) ?_
              simp only [Option.some.injEq] at hF
              subst hF
              refine AW.ret (hQ _ _ _ ?_ (matchO_0 ?_)).1
              · simp [Try.f20, h2, h2_, h4_, h4__, h4q, h5, h5_, h6, h6_, h7, h7_, h8, h8_]
              · simp [h2, h2_, h4_, h4__, h4q, h5, h5_, h6, h6_, h7, h7_, h8, h8_]
            · replace hF := ite_f h8 hF
              have h8_ := h8
              try simp at h8_
              by_cases h9 : v6 < 0
              · replace hF := ite_t h9 hF
                have h9_ := h9
                try simp at h9_
                try simp [h2, h2_, h4_, h4__, h4q, h5, h5_, h6, h6_, h7, h7_, h8, h8_, h9, h9_]
                repeat' apply And.intro
                any_goals (first | exact hG51 _ (by kernel_rfl) | refine hR51 _ _ _ ?_ | omega | (unfold maxLen; omega) | (simp [h2, h2_, h4_, h4__, h4q, h5, h5_, h6, h6_, h7, h7_, h8, h8_, h9, h9_]; done) | (simp [h2, h2_, h4_, h4__, h4q, h5, h5_, h6, h6_, h7, h7_, h8, h8_, h9, h9_]; omega))
                refine AW.wk [(42, AV.bool true)] [] 1 (by simp [h2, h2_, h4_, h4__, h4q, h5, h5_, h6, h6_, h7, h7_, h8, h8_, h9, h9_]) (by simp [h2, h2_, h4_, h4__, h4q, h5, h5_, h6, h6_, h7, h7_, h8, h8_, h9, h9_]) (by simp) ?_
                refine AW.condT (by decide) (by simp [h2, h2_, h4_, h4__, h4q, h5, h5_, h6, h6_, h7, h7_, h8, h8_, h9, h9_]) ?_
                refine AW.seqR mixed [] [none] (by kernel_rfl) fun G56 R56 hG56 hR56 => ?_
                try simp [h2, h2_, h4_, h4__, h4q, h5, h5_, h6, h6_, h7, h7_, h8, h8_, h9, h9_]
                repeat' apply And.intro
                any_goals (first | exact hG56 _ (by kernel_rfl) | refine hR56 _ _ _ ?_ | omega | (unfold maxLen; omega) | (simp [h2, h2_, h4_, h4__, h4q, h5, h5_, h6, h6_, h7, h7_, h8, h8_, h9, h9_]; done) | (simp [h2, h2_, h4_, h4__, h4q, h5, h5_, h6, h6_, h7, h7_, h8, h8_, h9, h9_]; omega))
                refine AW.wk [(2, AV.int .i64 40)] [] 1 (by simp [h2, h2_, h4_, h4__, h4q, h5, h5_, h6, h6_, h7, h7_, h8, h8_, h9, h9_]) (by simp [h2, h2_, h4_, h4__, h4q, h5, h5_, h6, h6_, h7, h7_, h8, h8_, h9, h9_]) (by simp) ?_
                simp only [Option.some.injEq] at hF
                subst hF
                refine AW.ret (hQ _ _ _ ?_ (matchO_0 ?_)).1
                · simp [Try.f20, h2, h2_, h4_, h4__, h4q, h5, h5_, h6, h6_, h7, h7_, h8, h8_, h9, h9_]
                · simp [h2, h2_, h4_, h4__, h4q, h5, h5_, h6, h6_, h7, h7_, h8, h8_, h9, h9_]
              · replace hF := ite_f h9 hF
                have h9_ := h9
                try simp at h9_
                try simp [h2, h2_, h4_, h4__, h4q, h5, h5_, h6, h6_, h7, h7_, h8, h8_, h9, h9_]
                repeat' apply And.intro
                any_goals (first | exact hG51 _ (by kernel_rfl) | refine hR51 _ _ _ ?_ | omega | (unfold maxLen; omega) | (simp [h2, h2_, h4_, h4__, h4q, h5, h5_, h6, h6_, h7, h7_, h8, h8_, h9, h9_]; done) | (simp [h2, h2_, h4_, h4__, h4q, h5, h5_, h6, h6_, h7, h7_, h8, h8_, h9, h9_]; omega))
                refine AW.wk [(42, AV.bool (decide (64 < v6)))] [] 1 (by simp [h2, h2_, h4_, h4__, h4q, h5, h5_, h6, h6_, h7, h7_, h8, h8_, h9, h9_]) (by simp [h2, h2_, h4_, h4__, h4q, h5, h5_, h6, h6_, h7, h7_, h8, h8_, h9, h9_]) (by simp) ?_
                by_cases h10 : 64 < v6
                · replace hF := ite_t h10 hF
                  have h10_ := h10
                  try simp at h10_
                  refine AW.condT (by decide) (by first | (simp [h2, h2_, h4_, h4__, h4q, h5, h5_, h6, h6_, h7, h7_, h8, h8_, h9, h9_, h10, h10_]; done) | (simp [h2, h2_, h4_, h4__, h4q, h5, h5_, h6, h6_, h7, h7_, h8, h8_, h9, h9_, h10, h10_]; omega)) ?_
                  refine AW.seqR mixed [] [none] (by kernel_rfl) fun G57 R57 hG57 hR57 => ?_
                  try simp [h2, h2_, h4_, h4__, h4q, h5, h5_, h6, h6_, h7, h7_, h8, h8_, h9, h9_, h10, h10_]
                  repeat' apply And.intro
                  any_goals (first | exact hG57 _ (by kernel_rfl) | refine hR57 _ _ _ ?_ | omega | (unfold maxLen; omega) | (simp [h2, h2_, h4_, h4__, h4q, h5, h5_, h6, h6_, h7, h7_, h8, h8_, h9, h9_, h10, h10_]; done) | (simp [h2, h2_, h4_, h4__, h4q, h5, h5_, h6, h6_, h7, h7_, h8, h8_, h9, h9_, h10, h10_]; omega))
                  refine AW.wk [(2, AV.int .i64 40)] [] 1 (by simp [h2, h2_, h4_, h4__, h4q, h5, h5_, h6, h6_, h7, h7_, h8, h8_, h9, h9_, h10, h10_]) (by simp [h2, h2_, h4_, h4__, h4q, h5, h5_, h6, h6_, h7, h7_, h8, h8_, h9, h9_, h10, h10_]) (by simp) ?_
                  simp only [Option.some.injEq] at hF
                  subst hF
                  refine AW.ret (hQ _ _ _ ?_ (matchO_0 ?_)).1
                  · simp [Try.f20, h2, h2_, h4_, h4__, h4q, h5, h5_, h6, h6_, h7, h7_, h8, h8_, h9, h9_, h10, h10_]
                  · simp [h2, h2_, h4_, h4__, h4q, h5, h5_, h6, h6_, h7, h7_, h8, h8_, h9, h9_, h10, h10_]
                · replace hF := ite_f h10 hF
                  have h10_ := h10
                  try simp at h10_
                  refine AW.condF (by decide) (by first | (simp [h2, h2_, h4_, h4__, h4q, h5, h5_, h6, h6_, h7, h7_, h8, h8_, h9, h9_, h10, h10_]; done) | (simp [h2, h2_, h4_, h4__, h4q, h5, h5_, h6, h6_, h7, h7_, h8, h8_, h9, h9_, h10, h10_]; omega)) ?_
                  refine AW.skip ?_
                  refine hK50 _ _ _ ?_
                  refine AW.seqR mixed [] [none] (by kernel_rfl) fun G58 R58 hG58 hR58 => ?_
                  try simp [h2, h2_, h4_, h4__, h4q, h5, h5_, h6, h6_, h7, h7_, h8, h8_, h9, h9_, h10, h10_]
                  repeat' apply And.intro
                  any_goals (first | exact hG58 _ (by kernel_rfl) | refine hR58 _ _ _ ?_ | omega | (unfold maxLen; omega) | (simp [h2, h2_, h4_, h4__, h4q, h5, h5_, h6, h6_, h7, h7_, h8, h8_, h9, h9_, h10, h10_]; done) | (simp [h2, h2_, h4_, h4__, h4q, h5, h5_, h6, h6_, h7, h7_, h8, h8_, h9, h9_, h10, h10_]; omega))
                  refine AW.wk [(2, AV.int .i64 0)] [] 1 (by simp [h2, h2_, h4_, h4__, h4q, h5, h5_, h6, h6_, h7, h7_, h8, h8_, h9, h9_, h10, h10_]) (by simp [h2, h2_, h4_, h4__, h4q, h5, h5_, h6, h6_, h7, h7_, h8, h8_, h9, h9_, h10, h10_]) (by simp) ?_
                  simp only [Option.some.injEq] at hF
                  subst hF
                  refine AW.ret (hQ _ _ _ ?_ (matchO_0 ?_)).1
                  · simp [Try.f20, h2, h2_, h4_, h4__, h4q, h5, h5_, h6, h6_, h7, h7_, h8, h8_, h9, h9_, h10, h10_]
                  · simp [h2, h2_, h4_, h4__, h4q, h5, h5_, h6, h6_, h7, h7_, h8, h8_, h9, h9_, h10, h10_]
set_option maxHeartbeats 4000000 in
theorem w_law24_RosterGenesis (k : Nat) (v0 : (List Int)) (v1 : Int) (v2 : Bool) (hF : law24_RosterGenesis k v0 v1 = some v2) :
    FCall Try.prog 4 [AV.lst false false (List.map (AV.int .i64) v0), AV.int .u64 v1] [] (AV.bool v2) [] := by
  unfold law24_RosterGenesis at hF
  refine FCall.enter Try.func4 rfl (by simp) (by decide) (by simp) (by simp) (by simp) (by simp) (by simp) ?_
  intro c0 w0 Q h0 hQ
  refine AW.wk [(0, AV.lst false false (List.map (AV.int .i64) v0)), (1, AV.int .u64 v1)] [] 0 (by simp) (by simp) (by simp) ?_
  refine AW.seqR mixed [] [none] (by kernel_rfl) fun G91 R91 hG91 hR91 => ?_
  try simp
  repeat' apply And.intro
  any_goals (first | exact hG91 _ (by kernel_rfl) | refine hR91 _ _ _ ?_ | omega | (unfold maxLen; omega) | (simp; done) | (simp; omega))
  refine AW.wk [(0, AV.lst false false (List.map (AV.int .i64) v0)), (1, AV.int .u64 v1)] [] 0 (by simp) (by simp) (by simp) ?_
  refine AW.seq fun K94 hK94 => ?_
  refine AW.seqR mixed [] [none, none, none] (by kernel_rfl) fun G95 R95 hG95 hR95 => ?_
  try simp
  repeat' apply And.intro
  try any_goals (first | omega | (unfold maxLen; omega) | (simp; done))
  obtain ⟨v3, h1, hF⟩ := bnd1_elim hF
  refine aCall_l (w_mill_Light k _ _ h1) (by simp) [] [] [] rfl (.cons (.same (by simp)) .nil) (by simp) (by decide) (by simp) (by simp) (.inl rfl) (by simp) (by simp) ?_
  try simp
  repeat' apply And.intro
  any_goals (first | exact hG95 _ (by kernel_rfl) | refine hR95 _ _ _ ?_ | omega | (unfold maxLen; omega) | (simp; done) | (simp; omega))
  refine AW.wk [(0, AV.lst false false (List.map (AV.int .i64) v0)), (1, AV.int .u64 v1), (11, AV.bool (!v3))] [] 0 (by simp) (by simp) (by simp) ?_
  by_cases h2 : (!v3) = true
  · replace hF := ite_t h2 hF
    have h2_ := h2
    try simp at h2_
    refine AW.condT (by decide) (by first | (simp [h2, h2_]; done) | (simp [h2, h2_]; omega)) ?_
    refine AW.seqR mixed [] [none, none] (by kernel_rfl) fun G96 R96 hG96 hR96 => ?_
    try simp [h2, h2_]
    repeat' apply And.intro
    try any_goals (first | omega | (unfold maxLen; omega) | (simp [h2, h2_]; done))
    obtain ⟨v4, h3, hF⟩ := bnd1_elim hF
    refine aCall_l (w_law24_awake k _ h3) (by simp) [] [] [] rfl .nil (by simp [h2, h2_]) (by decide) (by simp) (by simp) (.inl rfl) (by simp) (by simp) ?_
    try simp [h2, h2_]
    repeat' apply And.intro
    any_goals (first | exact hG96 _ (by kernel_rfl) | refine hR96 _ _ _ ?_ | omega | (unfold maxLen; omega) | (simp [h2, h2_]; done) | (simp [h2, h2_]; omega))
    refine AW.wk [(4, AV.bool v4)] [] 0 (by simp [h2, h2_]) (by simp [h2, h2_]) (by simp) ?_
    simp only [Option.some.injEq] at hF
    subst hF
    refine AW.ret (hQ _ _ _ ?_ (matchO_0 ?_)).1
    · simp [Try.f4, h2, h2_]
    · simp [h2, h2_]
  · replace hF := ite_f h2 hF
    have h2_ := h2
    try simp at h2_
    refine AW.condF (by decide) (by first | (simp [h2, h2_]; done) | (simp [h2, h2_]; omega)) ?_
    refine AW.skip ?_
    refine hK94 _ _ _ ?_
    refine AW.seqR mixed [] [none, none, none] (by kernel_rfl) fun G97 R97 hG97 hR97 => ?_
    try simp [h2, h2_]
    repeat' apply And.intro
    try any_goals (first | omega | (unfold maxLen; omega) | (simp [h2, h2_]; done))
    obtain ⟨v5, v6, h4, hF⟩ := bnd2_elim hF
    refine aCall_l (w_mill_Roll k _ _ _ h4) (by simp) [] [] [] rfl (.cons (.same (by simp [h2, h2_])) .nil) (by simp [h2, h2_]) (by decide) (by simp) (by simp) (.inl rfl) (by simp) (by simp) ?_
    try simp [h2, h2_]
    repeat' apply And.intro
    any_goals (first | exact hG97 _ (by kernel_rfl) | refine hR97 _ _ _ ?_ | omega | (unfold maxLen; omega) | (simp [h2, h2_]; done) | (simp [h2, h2_]; omega))
    refine AW.wk [(1, AV.int .u64 v1), (5, AV.ptr 0 0)] [(0, .cells [AV.lst false false (List.map (AV.int .i64) v5), AV.int .i64 v6])] 1 (by simp [h2, h2_]) (by simp [h2, h2_]) (by simp) ?_
    refine AW.seqR mixed [] [none, none, none, none] (by kernel_rfl) fun G98 R98 hG98 hR98 => ?_
    try simp [h2, h2_]
    repeat' apply And.intro
    try any_goals (first | omega | (unfold maxLen; omega) | (simp [h2, h2_]; done))
    obtain ⟨v7, v8, v9, v10, v11, v12, v13, v14, h5, hF⟩ := bnd8_elim hF
    refine aCall_l (w_mill_Rules_o k _ _ _ _ _ _ _ _ _ _ h5) (by simp) [0] [] [0] rfl (.cons (.same (by simp [h2, h2_])) .nil) (by simp [h2, h2_]) (by decide) (by simp) (by simp) (.inl rfl) (by simp) (by simp) ?_
    try simp [h2, h2_]
    repeat' apply And.intro
    any_goals (first | exact hG98 _ (by kernel_rfl) | refine hR98 _ _ _ ?_ | omega | (unfold maxLen; omega) | (simp [h2, h2_]; done) | (simp [h2, h2_]; omega))
    refine AW.wk [(1, AV.int .u64 v1), (6, AV.ptr 3 0)] [(1, .cells (List.map (AV.int .i64) v8)), (2, .cells (List.map (AV.int .i64) v9)), (3, .cells [AV.lst false false (List.map (AV.int .i64) v7), AV.slc 1 0 1 v8.length false, AV.slc 2 0 1 v9.length false, AV.int .i64 v10, AV.int .i64 v11, AV.int .i64 v12, AV.int .i64 v13])] 4 (by simp [h2, h2_]) (by simp [h2, h2_]) (by simp) ?_
    refine AW.frz 1 (o := .cells (List.map (AV.int .i64) v8)) (by simp [h2, h2_]) rfl [] [(3, .cells [AV.lst false false (List.map (AV.int .i64) v7), AV.lst false false (List.map (AV.int .i64) v8), AV.slc 2 0 1 v9.length false, AV.int .i64 v10, AV.int .i64 v11, AV.int .i64 v12, AV.int .i64 v13])] trivial ⟨⟨by simp, AObj.cells [AV.lst false false (List.map (AV.int .i64) v7), AV.slc 1 0 1 v8.length false, AV.slc 2 0 1 v9.length false, AV.int .i64 v10, AV.int .i64 v11, AV.int .i64 v12, AV.int .i64 v13], by simp [h2, h2_], (.mk (.cons (.same _) (.cons (.l (by simp) (by simp) (by simp) (by simp)) (.cons (.same _) (.cons (.same _) (.cons (.same _) (.cons (.same _) (.cons (.same _) .nil))))))))⟩, trivial⟩ ?_
    refine AW.frz 2 (o := .cells (List.map (AV.int .i64) v9)) (by simp [h2, h2_]) rfl [] [(3, .cells [AV.lst false false (List.map (AV.int .i64) v7), AV.lst false false (List.map (AV.int .i64) v8), AV.lst false false (List.map (AV.int .i64) v9), AV.int .i64 v10, AV.int .i64 v11, AV.int .i64 v12, AV.int .i64 v13])] trivial ⟨⟨by simp, AObj.cells [AV.lst false false (List.map (AV.int .i64) v7), AV.lst false false (List.map (AV.int .i64) v8), AV.slc 2 0 1 v9.length false, AV.int .i64 v10, AV.int .i64 v11, AV.int .i64 v12, AV.int .i64 v13], by simp [h2, h2_], (.mk (.cons (.same _) (.cons (.same _) (.cons (.l (by simp) (by simp) (by simp) (by simp)) (.cons (.same _) (.cons (.same _) (.cons (.same _) (.cons (.same _) .nil))))))))⟩, trivial⟩ ?_
    refine AW.wk [(1, AV.int .u64 v1), (6, AV.ptr 3 0)] [(3, .cells [AV.lst false false (List.map (AV.int .i64) v7), AV.lst false false (List.map (AV.int .i64) v8), AV.lst false false (List.map (AV.int .i64) v9), AV.int .i64 v10, AV.int .i64 v11, AV.int .i64 v12, AV.int .i64 v13])] 4 (by simp [h2, h2_]) (by simp [h2, h2_]) (by simp) ?_
    refine AW.seqR mixed [] [none, none] (by kernel_rfl) fun G99 R99 hG99 hR99 => ?_
    try simp [h2, h2_]
    repeat' apply And.intro
    any_goals (first | exact hG99 _ (by kernel_rfl) | refine hR99 _ _ _ ?_ | omega | (unfold maxLen; omega) | (simp [h2, h2_]; done) | (simp [h2, h2_]; omega))
    refine AW.wk [(1, AV.int .u64 v1), (6, AV.ptr 3 0)] [(3, .cells [AV.lst true true (List.map (AV.int .i64) ([] : List Int)), AV.lst false false (List.map (AV.int .i64) v8), AV.lst false false (List.map (AV.int .i64) v9), AV.int .i64 v10, AV.int .i64 v11, AV.int .i64 v12, AV.int .i64 v13])] 4 (by simp [h2, h2_]) (by simp [h2, h2_]) (by simp) ?_
    refine AW.seq fun K138 hK138 => ?_
    refine AW.seqR mixed [] [none] (by kernel_rfl) fun G139 R139 hG139 hR139 => ?_
    try simp [h2, h2_]
    repeat' apply And.intro
    any_goals (first | exact hG139 _ (by kernel_rfl) | refine hR139 _ _ _ ?_ | omega | (unfold maxLen; omega) | (simp [h2, h2_]; done) | (simp [h2, h2_]; omega))
    refine AW.wk [(1, AV.int .u64 v1), (6, AV.ptr 3 0), (7, AV.int .i64 0)] [(3, .cells [AV.lst true true (List.map (AV.int .i64) ([] : List Int)), AV.lst false false (List.map (AV.int .i64) v8), AV.lst false false (List.map (AV.int .i64) v9), AV.int .i64 v10, AV.int .i64 v11, AV.int .i64 v12, AV.int .i64 v13])] 4 (by simp [h2, h2_]) (by simp [h2, h2_]) (by simp) ?_
    refine AW.block ?_
    refine AW.ownC 3 0 1 true (cs := [AV.lst true true (List.map (AV.int .i64) ([] : List Int)), AV.lst false false (List.map (AV.int .i64) v8), AV.lst false false (List.map (AV.int .i64) v9), AV.int .i64 v10, AV.int .i64 v11, AV.int .i64 v12, AV.int .i64 v13]) (by simp [h2, h2_]) (by simp) ?_
    refine AW.rnm (m := 0) h0 [(0, 3), (1, 4)] [(1, AV.int .u64 v1), (6, AV.ptr 0 0), (7, AV.int .i64 0)] [(0, .cells [AV.slc 1 0 1 (([] : List Int).length) false, AV.lst false false (List.map (AV.int .i64) v8), AV.lst false false (List.map (AV.int .i64) v9), AV.int .i64 v10, AV.int .i64 v11, AV.int .i64 v12, AV.int .i64 v13]), (1, .grow (List.map (AV.int .i64) ([] : List Int)))] 2 (by decide) (by decide) (by decide) rfl (by simp [h2, h2_]) (by simp [h2, h2_]) ?_
    refine AW.loopF (α := (Int × (List Int))) (fun n (v15, v16) => law24_RosterGenesis.L1 k v1 v8 v9 v10 v11 v12 v13 n v15 v16 = some v2) (fun (v15, v16) => [(1, AV.int .u64 v1), (6, AV.ptr 0 0), (7, AV.int .i64 v15)]) (fun (v15, v16) => [(0, .cells [AV.slc 1 0 1 v16.length false, AV.lst false false (List.map (AV.int .i64) v8), AV.lst false false (List.map (AV.int .i64) v9), AV.int .i64 v10, AV.int .i64 v11, AV.int .i64 v12, AV.int .i64 v13]), (1, .grow (List.map (AV.int .i64) v16))]) 2 k ((0, ([] : List Int))) hF (by simp [h2, h2_]) (by simp [h2, h2_]) (by simp) ?_
    rintro (_|n1) ⟨v15, v16⟩ hF K167 hK167
    · try dsimp only at hF
      rw [law24_RosterGenesis.L1] at hF; cases hF
    try dsimp only at hF
    rw [law24_RosterGenesis.L1] at hF
    refine AW.seq fun K169 hK169 => ?_
    refine AW.seqR mixed [] [none, none] (by kernel_rfl) fun G170 R170 hG170 hR170 => ?_
    try simp [h2, h2_]
    repeat' apply And.intro
    any_goals (first | exact hG170 _ (by kernel_rfl) | refine hR170 _ _ _ ?_ | omega | (unfold maxLen; omega) | (simp [h2, h2_]; done) | (simp [h2, h2_]; omega))
    refine AW.wk [(1, AV.int .u64 v1), (6, AV.ptr 0 0), (7, AV.int .i64 v15), (19, AV.bool (decide (v15 < 64)))] [(0, .cells [AV.slc 1 0 1 v16.length false, AV.lst false false (List.map (AV.int .i64) v8), AV.lst false false (List.map (AV.int .i64) v9), AV.int .i64 v10, AV.int .i64 v11, AV.int .i64 v12, AV.int .i64 v13]), (1, .grow (List.map (AV.int .i64) v16))] 2 (by simp [h2, h2_]) (by simp [h2, h2_]) (by simp) ?_
    by_cases h6 : v15 < 64
    · replace hF := ite_t h6 hF
      have h6_ := h6
      try simp at h6_
      refine AW.condT (by decide) (by first | (simp [h2, h2_, h6, h6_]; done) | (simp [h2, h2_, h6, h6_]; omega)) ?_
      refine AW.skip ?_
      refine hK169 _ _ _ ?_
      refine AW.midF (α := (List Int)) (fun v17 => law24_RosterGenesis.J2 k v15 (fun v15_ v16_ => law24_RosterGenesis.L1 k v1 v8 v9 v10 v11 v12 v13 n1 v15_ v16_) v17 = some v2) (fun v17 => [(1, AV.int .u64 v1), (6, AV.ptr 0 0), (7, AV.int .i64 v15)]) (fun v17 => [(0, .cells [AV.slc 1 0 1 v17.length false, AV.lst false false (List.map (AV.int .i64) v8), AV.lst false false (List.map (AV.int .i64) v9), AV.int .i64 v10, AV.int .i64 v11, AV.int .i64 v12, AV.int .i64 v13]), (1, .grow (List.map (AV.int .i64) v17))]) 2 (fun K174 hK174 => ?_) ?_
      · refine AW.block ?_
        refine AW.seqR mixed [] [none, none, none, none, none, none] (by kernel_rfl) fun G175 R175 hG175 hR175 => ?_
        obtain ⟨h7, hF⟩ := chk_elim hF
        try simp [h2, h2_, h6, h6_, h7]
        repeat' apply And.intro
        any_goals (first | exact hG175 _ (by kernel_rfl) | refine hR175 _ _ _ ?_ | omega | (unfold maxLen; omega) | (simp [h2, h2_, h6, h6_, h7]; done) | (simp [h2, h2_, h6, h6_, h7]; omega))
        refine AW.wk [(1, AV.int .u64 v1), (6, AV.ptr 0 0), (7, AV.int .i64 v15), (27, AV.bool ((bitsV .and .u64 (Int.fdiv v1 (2 ^ (min ((IntKind.wrap .u64 v15).toNat) 64))) 1) == 1))] [(0, .cells [AV.slc 1 0 1 v16.length false, AV.lst false false (List.map (AV.int .i64) v8), AV.lst false false (List.map (AV.int .i64) v9), AV.int .i64 v10, AV.int .i64 v11, AV.int .i64 v12, AV.int .i64 v13]), (1, .grow (List.map (AV.int .i64) v16))] 2 (by simp [h2, h2_, h6, h6_, h7]) (by simp [h2, h2_, h6, h6_, h7]) (by simp) ?_
        by_cases h8 : (bitsV .and .u64 (Int.fdiv v1 (2 ^ (min ((IntKind.wrap .u64 v15).toNat) 64))) 1) = 1
        · replace hF := ite_t h8 hF
          have h8q : (bitsV .and .u64 (Int.fdiv v1 (2 ^ (min ((IntKind.wrap .u64 v15).toNat) 64))) 1) = 1 := h8
          have h8_ := eqb_t h8q
          have h8__ := neb_f h8q
          refine AW.condT (by decide) (by first | (simp [h2, h2_, h6, h6_, h7, h8_, h8__, h8q]; done) | (simp [h2, h2_, h6, h6_, h7, h8_, h8__, h8q]; omega)) ?_
          refine AW.region mixed [] [none, none, none, none, none, none, none] (by kernel_rfl) fun G176 R176 hG176 hR176 => ?_
          obtain ⟨h9, hF⟩ := chk_elim hF
          have h9_ := h9
          try simp at h9_
          try simp [h2, h2_, h6, h6_, h7, h8_, h8__, h8q, h9]
          repeat' apply And.intro
          any_goals (first | exact hG176 _ (by kernel_rfl) | refine hR176 _ _ _ ?_ | omega | (unfold maxLen; omega) | (simp [h2, h2_, h6, h6_, h7, h8_, h8__, h8q, h9]; done) | (simp [h2, h2_, h6, h6_, h7, h8_, h8__, h8q, h9]; omega))
          refine hK174 _ _ _ ?_
          refine Can.weak [(1, AV.int .u64 v1), (6, AV.ptr 0 0), (7, AV.int .i64 v15)] [(0, .cells [AV.slc 2 0 1 ((v16 ++ ([v15] : List Int)).length) false, AV.lst false false (List.map (AV.int .i64) v8), AV.lst false false (List.map (AV.int .i64) v9), AV.int .i64 v10, AV.int .i64 v11, AV.int .i64 v12, AV.int .i64 v13]), (2, .grow (List.map (AV.int .i64) (v16 ++ ([v15] : List Int))))] 3 (by simp [h2, h2_, h6, h6_, h7, h8_, h8__, h8q, h9]) (by simp [h2, h2_, h6, h6_, h7, h8_, h8__, h8q, h9]) (by simp) ?_
          refine Can.ren (m := 0) h0 [(0, 0), (1, 2)] [(1, AV.int .u64 v1), (6, AV.ptr 0 0), (7, AV.int .i64 v15)] [(0, .cells [AV.slc 1 0 1 ((v16 ++ ([v15] : List Int)).length) false, AV.lst false false (List.map (AV.int .i64) v8), AV.lst false false (List.map (AV.int .i64) v9), AV.int .i64 v10, AV.int .i64 v11, AV.int .i64 v12, AV.int .i64 v13]), (1, .grow (List.map (AV.int .i64) (v16 ++ ([v15] : List Int))))] 2 (by decide) (by decide) (by decide) rfl (by simp [h2, h2_, h6, h6_, h7, h8_, h8__, h8q, h9]) (by simp [h2, h2_, h6, h6_, h7, h8_, h8__, h8q, h9]) ?_
          exact Can.join (v16 ++ ([v15] : List Int)) hF (by simp [h2, h2_, h6, h6_, h7, h8_, h8__, h8q, h9]) (by simp [h2, h2_, h6, h6_, h7, h8_, h8__, h8q, h9]) (by simp)
        · replace hF := ite_f h8 hF
          have h8_ := eqb_f h8
          have h8__ := neb_t h8
          refine AW.condF (by decide) (by first | (simp [h2, h2_, h6, h6_, h7, h8, h8_, h8__]; done) | (simp [h2, h2_, h6, h6_, h7, h8, h8_, h8__]; omega)) ?_
          refine AW.skip ?_
          refine hK174 _ _ _ ?_
          exact Can.join (v16) hF (by simp [h2, h2_, h6, h6_, h7, h8, h8_, h8__]) (by simp [h2, h2_, h6, h6_, h7, h8, h8_, h8__]) (by simp)
      · rintro v17 hF
        try dsimp only at hF
        unfold law24_RosterGenesis.J2 at hF
        refine AW.region mixed [] [none, none, none] (by kernel_rfl) fun G173 R173 hG173 hR173 => ?_
        try simp [h2, h2_, h6, h6_]
        repeat' apply And.intro
        any_goals (first | exact hG173 _ (by kernel_rfl) | refine hR173 _ _ _ ?_ | omega | (unfold maxLen; omega) | (simp [h2, h2_, h6, h6_]; done) | (simp [h2, h2_, h6, h6_]; omega))
        refine hK167 _ _ _ ?_
        refine Can.weak [(1, AV.int .u64 v1), (6, AV.ptr 0 0), (7, AV.int .i64 (IntKind.wrap .i64 (v15 + 1)))] [(0, .cells [AV.slc 1 0 1 v17.length false, AV.lst false false (List.map (AV.int .i64) v8), AV.lst false false (List.map (AV.int .i64) v9), AV.int .i64 v10, AV.int .i64 v11, AV.int .i64 v12, AV.int .i64 v13]), (1, .grow (List.map (AV.int .i64) v17))] 2 (by simp [h2, h2_, h6, h6_]) (by simp [h2, h2_, h6, h6_]) (by simp) ?_
        exact Can.next (k' := n1) ((IntKind.wrap .i64 (v15 + 1), v17)) (by omega) hF (by simp [h2, h2_, h6, h6_]) (by simp [h2, h2_, h6, h6_]) (by simp)
    · replace hF := ite_f h6 hF
      have h6_ := h6
      try simp at h6_
      refine AW.condF (by decide) (by first | (simp [h2, h2_, h6, h6_]; done) | (simp [h2, h2_, h6, h6_]; omega)) ?_
      refine AW.exit ?_
      try simp
      refine hK138 _ _ _ ?_
      refine AW.wk [(1, AV.int .u64 v1), (6, AV.ptr 0 0)] [(0, .cells [AV.slc 1 0 1 v16.length false, AV.lst false false (List.map (AV.int .i64) v8), AV.lst false false (List.map (AV.int .i64) v9), AV.int .i64 v10, AV.int .i64 v11, AV.int .i64 v12, AV.int .i64 v13]), (1, .grow (List.map (AV.int .i64) v16))] 2 (by simp [h2, h2_, h6, h6_]) (by simp [h2, h2_, h6, h6_]) (by simp) ?_
      refine AW.frz 1 (o := .grow (List.map (AV.int .i64) v16)) (by simp [h2, h2_, h6, h6_]) rfl [] [(0, .cells [AV.lst false false (List.map (AV.int .i64) v16), AV.lst false false (List.map (AV.int .i64) v8), AV.lst false false (List.map (AV.int .i64) v9), AV.int .i64 v10, AV.int .i64 v11, AV.int .i64 v12, AV.int .i64 v13])] trivial ⟨⟨by simp, AObj.cells [AV.slc 1 0 1 v16.length false, AV.lst false false (List.map (AV.int .i64) v8), AV.lst false false (List.map (AV.int .i64) v9), AV.int .i64 v10, AV.int .i64 v11, AV.int .i64 v12, AV.int .i64 v13], by simp [h2, h2_, h6, h6_], (.mk (.cons (.l (by simp) (by simp) (by simp) (by simp)) (.cons (.same _) (.cons (.same _) (.cons (.same _) (.cons (.same _) (.cons (.same _) (.cons (.same _) .nil))))))))⟩, trivial⟩ ?_
      refine AW.wk [(1, AV.int .u64 v1), (6, AV.ptr 0 0)] [(0, .cells [AV.lst false false (List.map (AV.int .i64) v16), AV.lst false false (List.map (AV.int .i64) v8), AV.lst false false (List.map (AV.int .i64) v9), AV.int .i64 v10, AV.int .i64 v11, AV.int .i64 v12, AV.int .i64 v13])] 2 (by simp [h2, h2_, h6, h6_]) (by simp [h2, h2_, h6, h6_]) (by simp) ?_
      refine AW.seqR mixed [] [none, none, none] (by kernel_rfl) fun G177 R177 hG177 hR177 => ?_
      try simp [h2, h2_, h6, h6_]
      repeat' apply And.intro
      any_goals (first | exact hG177 _ (by kernel_rfl) | refine hR177 _ _ _ ?_ | omega | (unfold maxLen; omega) | (simp [h2, h2_, h6, h6_]; done) | (simp [h2, h2_, h6, h6_]; omega))
      refine AW.wk [(1, AV.int .u64 v1), (6, AV.ptr 0 0), (8, AV.ptr 2 0)] [(0, .cells [AV.lst false false (List.map (AV.int .i64) v16), AV.lst false false (List.map (AV.int .i64) v8), AV.lst false false (List.map (AV.int .i64) v9), AV.int .i64 v10, AV.int .i64 v11, AV.int .i64 v12, AV.int .i64 v13]), (2, .cells [AV.lst false false (List.map (AV.int .i64) v16), AV.lst false false (List.map (AV.int .i64) v8), AV.lst false false (List.map (AV.int .i64) v9), AV.int .i64 v10, AV.int .i64 v11, AV.int .i64 v12, AV.int .i64 v13])] 3 (by simp [h2, h2_, h6, h6_]) (by simp [h2, h2_, h6, h6_]) (by simp) ?_
      refine AW.seqR mixed [38] [none, none, none, none, none, none, none, none] (by kernel_rfl) fun G178 R178 hG178 hR178 => ?_
      obtain ⟨h10, hF⟩ := chk_elim hF
      have h10_ := h10
      try simp at h10_
      obtain ⟨h11, hF⟩ := chk_elim hF
      have h11_ := h11
      try simp at h11_
      try simp [h2, h2_, h6, h6_, h10, h11]
      repeat' apply And.intro
      any_goals (first | exact hG178 _ (by kernel_rfl) | refine hR178 _ _ _ ?_ | omega | (unfold maxLen; omega) | (simp [h2, h2_, h6, h6_, h10, h11]; done) | (simp [h2, h2_, h6, h6_, h10, h11]; omega))
      refine AW.wk [(1, AV.int .u64 v1), (6, AV.ptr 0 0), (8, AV.ptr 2 0)] [(0, .cells [AV.lst false false (List.map (AV.int .i64) v16), AV.lst false false (List.map (AV.int .i64) v8), AV.lst false false (List.map (AV.int .i64) v9), AV.int .i64 v10, AV.int .i64 v11, AV.int .i64 v12, AV.int .i64 v13]), (2, .cells [AV.slc 4 0 1 ((v16 ++ ([-1] : List Int)).length) false, AV.lst false false (List.map (AV.int .i64) v8), AV.lst false false (List.map (AV.int .i64) v9), AV.int .i64 v10, AV.int .i64 v11, AV.int .i64 v12, AV.int .i64 v13]), (4, .grow (List.map (AV.int .i64) (v16 ++ ([-1] : List Int))))] 5 (by simp [h2, h2_, h6, h6_, h10, h11]) (by simp [h2, h2_, h6, h6_, h10, h11]) (by simp) ?_
      refine AW.frz 4 (o := .grow (List.map (AV.int .i64) (v16 ++ ([-1] : List Int)))) (by simp [h2, h2_, h6, h6_, h10, h11]) rfl [] [(2, .cells [AV.lst false false (List.map (AV.int .i64) (v16 ++ ([-1] : List Int))), AV.lst false false (List.map (AV.int .i64) v8), AV.lst false false (List.map (AV.int .i64) v9), AV.int .i64 v10, AV.int .i64 v11, AV.int .i64 v12, AV.int .i64 v13])] trivial ⟨⟨by simp, AObj.cells [AV.slc 4 0 1 ((v16 ++ ([-1] : List Int)).length) false, AV.lst false false (List.map (AV.int .i64) v8), AV.lst false false (List.map (AV.int .i64) v9), AV.int .i64 v10, AV.int .i64 v11, AV.int .i64 v12, AV.int .i64 v13], by simp [h2, h2_, h6, h6_, h10, h11], (.mk (.cons (.l (by simp) (by simp) (by simp) (by simp)) (.cons (.same _) (.cons (.same _) (.cons (.same _) (.cons (.same _) (.cons (.same _) (.cons (.same _) .nil))))))))⟩, trivial⟩ ?_
      refine AW.wk [(1, AV.int .u64 v1), (6, AV.ptr 0 0), (8, AV.ptr 2 0)] [(0, .cells [AV.lst false false (List.map (AV.int .i64) v16), AV.lst false false (List.map (AV.int .i64) v8), AV.lst false false (List.map (AV.int .i64) v9), AV.int .i64 v10, AV.int .i64 v11, AV.int .i64 v12, AV.int .i64 v13]), (2, .cells [AV.lst false false (List.map (AV.int .i64) (v16 ++ ([-1] : List Int))), AV.lst false false (List.map (AV.int .i64) v8), AV.lst false false (List.map (AV.int .i64) v9), AV.int .i64 v10, AV.int .i64 v11, AV.int .i64 v12, AV.int .i64 v13])] 5 (by simp [h2, h2_, h6, h6_, h10, h11]) (by simp [h2, h2_, h6, h6_, h10, h11]) (by simp) ?_
      refine AW.seqR mixed [] [none, none] (by kernel_rfl) fun G179 R179 hG179 hR179 => ?_
      try simp [h2, h2_, h6, h6_, h10, h11]
      repeat' apply And.intro
      any_goals (first | exact hG179 _ (by kernel_rfl) | refine hR179 _ _ _ ?_ | omega | (unfold maxLen; omega) | (simp [h2, h2_, h6, h6_, h10, h11]; done) | (simp [h2, h2_, h6, h6_, h10, h11]; omega))
      refine AW.wk [(1, AV.int .u64 v1), (6, AV.ptr 0 0), (8, AV.ptr 2 0)] [(0, .cells [AV.lst false false (List.map (AV.int .i64) v16), AV.lst false false (List.map (AV.int .i64) v8), AV.lst false false (List.map (AV.int .i64) v9), AV.int .i64 v10, AV.int .i64 v11, AV.int .i64 v12, AV.int .i64 v13]), (2, .cells [AV.lst false false (List.map (AV.int .i64) (v16 ++ ([-1] : List Int))), AV.lst false false (List.map (AV.int .i64) v8), AV.lst false false (List.map (AV.int .i64) v9), AV.int .i64 v10, AV.int .i64 0, AV.int .i64 v12, AV.int .i64 v13])] 5 (by simp [h2, h2_, h6, h6_, h10, h11]) (by simp [h2, h2_, h6, h6_, h10, h11]) (by simp) ?_
      refine AW.seqR mixed [] [none, none, none, none, none, none, none, some (49, true), some (49, true), some (49, true), none, none, some (54, true), none, none] (by kernel_rfl) fun G180 R180 hG180 hR180 => ?_
      try simp [h2, h2_, h6, h6_, h10, h11]
      repeat' apply And.intro
      try any_goals (first | omega | (unfold maxLen; omega) | (simp [h2, h2_, h6, h6_, h10, h11]; done))
      obtain ⟨v18, h12, hF⟩ := bnd1_elim hF
      refine aCall_l (w_roster_Check k _ _ _ _ _ _ _ _ h12) (by simp) [] [] [] rfl (.cons (.same (by simp [h2, h2_, h6, h6_, h10, h11])) .nil) (by simp [h2, h2_, h6, h6_, h10, h11]) (by decide) (by simp) (by simp) (.inl rfl) (by simp) (by simp) ?_
      by_cases h13 : ((v18 == 0) == (v1 != 0)) = true
      · replace hF := ite_t h13 hF
        have h13_ := h13
        try simp at h13_
        try simp [h2, h2_, h6, h6_, h10, h11, h13, h13_]
        repeat' apply And.intro
        try any_goals (first | omega | (unfold maxLen; omega) | (simp [h2, h2_, h6, h6_, h10, h11, h13, h13_]; done))
        obtain ⟨v19, h14, hF⟩ := bnd1_elim hF
        refine aCall_l (w_roster_Check k _ _ _ _ _ _ _ _ h14) (by simp) [] [] [] rfl (.cons (.same (by simp [h2, h2_, h6, h6_, h10, h11, h13, h13_])) .nil) (by simp [h2, h2_, h6, h6_, h10, h11, h13, h13_]) (by decide) (by simp) (by simp) (.inl rfl) (by simp) (by simp) ?_
        by_cases h15 : v19 = 43
        · replace hF := ite_t h15 hF
          have h15q : v19 = 43 := h15
          have h15_ := eqb_t h15q
          have h15__ := neb_f h15q
          try simp [h2, h2_, h6, h6_, h10, h11, h13, h13_, h15_, h15__, h15q]
          repeat' apply And.intro
          try any_goals (first | omega | (unfold maxLen; omega) | (simp [h2, h2_, h6, h6_, h10, h11, h13, h13_, h15_, h15__, h15q]; done))
          obtain ⟨v20, h16, hF⟩ := bnd1_elim hF
          refine aCall_l (w_law24_awake k _ h16) (by simp) [] [] [] rfl .nil (by simp [h2, h2_, h6, h6_, h10, h11, h13, h13_, h15_, h15__, h15q]) (by decide) (by simp) (by simp) (.inl rfl) (by simp) (by simp) ?_
          try simp [h2, h2_, h6, h6_, h10, h11, h13, h13_, h15_, h15__, h15q]
          repeat' apply And.intro
          any_goals (first | exact hG180 _ (by kernel_rfl) | refine hR180 _ _ _ ?_ | omega | (unfold maxLen; omega) | (simp [h2, h2_, h6, h6_, h10, h11, h13, h13_, h15_, h15__, h15q]; done) | (simp [h2, h2_, h6, h6_, h10, h11, h13, h13_, h15_, h15__, h15q]; omega))
          refine AW.wk [(4, AV.bool v20)] [] 5 (by simp [h2, h2_, h6, h6_, h10, h11, h13, h13_, h15_, h15__, h15q]) (by simp [h2, h2_, h6, h6_, h10, h11, h13, h13_, h15_, h15__, h15q]) (by simp) ?_
          simp only [Option.some.injEq] at hF
          subst hF
          refine AW.ret (hQ _ _ _ ?_ (matchO_0 ?_)).1
          · simp [Try.f4, h2, h2_, h6, h6_, h10, h11, h13, h13_, h15_, h15__, h15q]
          · simp [h2, h2_, h6, h6_, h10, h11, h13, h13_, h15_, h15__, h15q]
        · replace hF := ite_f h15 hF
          have h15_ := eqb_f h15
          have h15__ := neb_t h15
          try simp [h2, h2_, h6, h6_, h10, h11, h13, h13_, h15, h15_, h15__]
          repeat' apply And.intro
          any_goals (first | exact hG180 _ (by kernel_rfl) | refine hR180 _ _ _ ?_ | omega | (unfold maxLen; omega) | (simp [h2, h2_, h6, h6_, h10, h11, h13, h13_, h15, h15_, h15__]; done) | (simp [h2, h2_, h6, h6_, h10, h11, h13, h13_, h15, h15_, h15__]; omega))
          refine AW.wk [(4, AV.bool false)] [] 5 (by simp [h2, h2_, h6, h6_, h10, h11, h13, h13_, h15, h15_, h15__]) (by simp [h2, h2_, h6, h6_, h10, h11, h13, h13_, h15, h15_, h15__]) (by simp) ?_
          simp only [Option.some.injEq] at hF
          subst hF
          refine AW.ret (hQ _ _ _ ?_ (matchO_0 ?_)).1
          · simp [Try.f4, h2, h2_, h6, h6_, h10, h11, h13, h13_, h15, h15_, h15__]
          · simp [h2, h2_, h6, h6_, h10, h11, h13, h13_, h15, h15_, h15__]
      · replace hF := ite_f h13 hF
        have h13_ := h13
        try simp at h13_
        try simp [h2, h2_, h6, h6_, h10, h11, h13, h13_]
        repeat' apply And.intro
        any_goals (first | exact hG180 _ (by kernel_rfl) | refine hR180 _ _ _ ?_ | omega | (unfold maxLen; omega) | (simp [h2, h2_, h6, h6_, h10, h11, h13, h13_]; done) | (simp [h2, h2_, h6, h6_, h10, h11, h13, h13_]; omega))
        refine AW.wk [(4, AV.bool false)] [] 5 (by simp [h2, h2_, h6, h6_, h10, h11, h13, h13_]) (by simp [h2, h2_, h6, h6_, h10, h11, h13, h13_]) (by simp) ?_
        simp only [Option.some.injEq] at hF
        subst hF
        refine AW.ret (hQ _ _ _ ?_ (matchO_0 ?_)).1
        · simp [Try.f4, h2, h2_, h6, h6_, h10, h11, h13, h13_]
        · simp [h2, h2_, h6, h6_, h10, h11, h13, h13_]
end Go.TF
