/- Walks: the Go text computes the Lean functions (printed by a program of our own). -/
import Derived.Test.YtgadcpbcbbmeaaaAPu
import Derived.Test.YtgadcpbcbbmeaaaAAbsT
import Derived.Test.YtgadcpbcbbmeaaaAWa0
import Derived.Test.YtgadcpbcbbmeaaaAWa1
import Derived.Test.YtgadcpbcbbmeaaaAWa2
import Derived.Test.YtgadcpbcbbmeaaaAWa4
import Derived.Test.YtgadcpbcbbmeaaaAWa5
set_option linter.unusedVariables false
set_option linter.unusedSimpArgs false
set_option maxRecDepth 100000
namespace Go.TF
open Go Go.Abs Go.Proofs Go.Proofs.YtgadcpbcbbmeaaaAT
set_option maxHeartbeats 4000000 in
theorem w_ref13_policy (k : Nat) (v0 : Int) (v1 : (List api_Edge)) (v2 : (List Int)) (v3 : (List Int)) (v4 : (List Int)) (v5 : Int) (v6 : Bool) (hF : ref13_policy k v0 v1 v2 v3 v4 v5 = some v6) :
    FCall Try.prog 174 [AV.agg [AV.int .i64 v0, AV.lst false false (List.map api_Edge.av v1), AV.lst false false (List.map (AV.int .i64) v2)], AV.agg [AV.lst false false (List.map (AV.int .i64) v3), AV.lst false false (List.map (AV.int .i64) v4), AV.int .i64 v5]] [] (AV.bool v6) [] := by
  unfold ref13_policy at hF
  refine FCall.enter Try.func174 rfl (by simp) (by decide) (by simp) (by simp) (by simp) (by simp) (by simp) ?_
  intro c0 w0 Q h0 hQ
  refine AW.wk [(0, AV.agg [AV.int .i64 v0, AV.lst false false (List.map api_Edge.av v1), AV.lst false false (List.map (AV.int .i64) v2)]), (1, AV.agg [AV.lst false false (List.map (AV.int .i64) v3), AV.lst false false (List.map (AV.int .i64) v4), AV.int .i64 v5])] [] 0 (by simp) (by simp) (by simp) ?_
  refine AW.seqR mixed [] [none, none, none] (by kernel_rfl) fun G119 R119 hG119 hR119 => ?_
  try simp
  repeat' apply And.intro
  any_goals (first | exact hG119 _ (by kernel_rfl) | refine hR119 _ _ _ ?_ | omega | (unfold maxLen; omega) | (simp; done) | (simp; omega))
  refine AW.wk [(2, AV.ptr 0 0), (3, AV.ptr 1 0)] [(0, .cells [AV.int .i64 v0, AV.lst false false (List.map api_Edge.av v1), AV.lst false false (List.map (AV.int .i64) v2)]), (1, .cells [AV.lst false false (List.map (AV.int .i64) v3), AV.lst false false (List.map (AV.int .i64) v4), AV.int .i64 v5])] 2 (by simp) (by simp) (by simp) ?_
  refine AW.seq fun K127 hK127 => ?_
  refine AW.seqR mixed [] [none, none, none, none, none, some (10, false), some (10, false), some (10, false), some (10, false), some (10, false), some (10, false), none, none, some (18, false), some (18, false), some (18, false), some (18, false), none, none, some (24, false), some (24, false), some (24, false), some (24, false), none, none, some (30, false), some (30, false), some (30, false), none, none, some (35, false), some (35, false), some (35, false), none] (by kernel_rfl) fun G128 R128 hG128 hR128 => ?_
  by_cases h1 : (v3.length : Int) = 0
  · replace hF := ite_t h1 hF
    have h1q : (v3.length : Int) = 0 := h1
    have h1_ := eqb_t h1q
    have h1__ := neb_f h1q
    try simp [h1_, h1__, h1q]
    repeat' apply And.intro
    any_goals (first | exact hG128 _ (by kernel_rfl) | refine hR128 _ _ _ ?_ | omega | (unfold maxLen; omega) | (simp [h1_, h1__, h1q]; done) | (simp [h1_, h1__, h1q]; omega))
    refine AW.wk [(3, AV.ptr 1 0), (39, AV.bool true)] [(1, .cells [AV.lst false false (List.map (AV.int .i64) v3), AV.lst false false (List.map (AV.int .i64) v4), AV.int .i64 v5])] 2 (by simp [h1_, h1__, h1q]) (by simp [h1_, h1__, h1q]) (by simp) ?_
    refine AW.condT (by decide) (by simp [h1_, h1__, h1q]) ?_
    refine AW.seqR mixed [] [none] (by kernel_rfl) fun G129 R129 hG129 hR129 => ?_
    try simp [h1_, h1__, h1q]
    repeat' apply And.intro
    any_goals (first | exact hG129 _ (by kernel_rfl) | refine hR129 _ _ _ ?_ | omega | (unfold maxLen; omega) | (simp [h1_, h1__, h1q]; done) | (simp [h1_, h1__, h1q]; omega))
    refine AW.wk [(4, AV.bool false)] [] 2 (by simp [h1_, h1__, h1q]) (by simp [h1_, h1__, h1q]) (by simp) ?_
    simp only [Option.some.injEq] at hF
    subst hF
    refine AW.ret (hQ _ _ _ ?_ (matchO_0 ?_)).1
    · simp [Try.f174, h1_, h1__, h1q]
    · simp [h1_, h1__, h1q]
  · replace hF := ite_f h1 hF
    have h1_ := eqb_f h1
    have h1__ := neb_t h1
    try simp [h1, h1_, h1__]
    repeat' apply And.intro
    try any_goals (first | omega | (unfold maxLen; omega) | (simp [h1, h1_, h1__]; done))
    obtain ⟨v7, h2, hF⟩ := bnd1_elim hF
    refine aCall_l (w_ref11_Set k _ _ _ h2) (by simp) [] [] [] rfl (.cons (.same (by simp [h1, h1_, h1__])) (.cons (.same (by simp [h1, h1_, h1__])) .nil)) (by simp [h1, h1_, h1__]) (by decide) (by simp) (by simp) (.inl rfl) (by simp) (by simp) ?_
    by_cases h3 : (!v7) = true
    · replace hF := ite_t h3 hF
      have h3_ := h3
      try simp at h3_
      try simp [h1, h1_, h1__, h3, h3_]
      repeat' apply And.intro
      any_goals (first | exact hG128 _ (by kernel_rfl) | refine hR128 _ _ _ ?_ | omega | (unfold maxLen; omega) | (simp [h1, h1_, h1__, h3, h3_]; done) | (simp [h1, h1_, h1__, h3, h3_]; omega))
      refine AW.wk [(3, AV.ptr 1 0), (39, AV.bool true)] [(1, .cells [AV.lst false false (List.map (AV.int .i64) v3), AV.lst false false (List.map (AV.int .i64) v4), AV.int .i64 v5])] 2 (by simp [h1, h1_, h1__, h3, h3_]) (by simp [h1, h1_, h1__, h3, h3_]) (by simp) ?_
      refine AW.condT (by decide) (by simp [h1, h1_, h1__, h3, h3_]) ?_
      refine AW.seqR mixed [] [none] (by kernel_rfl) fun G130 R130 hG130 hR130 => ?_
      try simp [h1, h1_, h1__, h3, h3_]
      repeat' apply And.intro
      any_goals (first | exact hG130 _ (by kernel_rfl) | refine hR130 _ _ _ ?_ | omega | (unfold maxLen; omega) | (simp [h1, h1_, h1__, h3, h3_]; done) | (simp [h1, h1_, h1__, h3, h3_]; omega))
      refine AW.wk [(4, AV.bool false)] [] 2 (by simp [h1, h1_, h1__, h3, h3_]) (by simp [h1, h1_, h1__, h3, h3_]) (by simp) ?_
      simp only [Option.some.injEq] at hF
      subst hF
      refine AW.ret (hQ _ _ _ ?_ (matchO_0 ?_)).1
      · simp [Try.f174, h1, h1_, h1__, h3, h3_]
      · simp [h1, h1_, h1__, h3, h3_]
    · replace hF := ite_f h3 hF
      have h3_ := h3
      try simp at h3_
      by_cases h4 : (v4.length : Int) < 1
      · replace hF := ite_t h4 hF
        have h4_ := h4
        try simp at h4_
        try simp [h1, h1_, h1__, h3, h3_, h4, h4_]
        repeat' apply And.intro
        any_goals (first | exact hG128 _ (by kernel_rfl) | refine hR128 _ _ _ ?_ | omega | (unfold maxLen; omega) | (simp [h1, h1_, h1__, h3, h3_, h4, h4_]; done) | (simp [h1, h1_, h1__, h3, h3_, h4, h4_]; omega))
        refine AW.wk [(3, AV.ptr 1 0), (39, AV.bool true)] [(1, .cells [AV.lst false false (List.map (AV.int .i64) v3), AV.lst false false (List.map (AV.int .i64) v4), AV.int .i64 v5])] 2 (by simp [h1, h1_, h1__, h3, h3_, h4, h4_]) (by simp [h1, h1_, h1__, h3, h3_, h4, h4_]) (by simp) ?_
        refine AW.condT (by decide) (by simp [h1, h1_, h1__, h3, h3_, h4, h4_]) ?_
        refine AW.seqR mixed [] [none] (by kernel_rfl) fun G131 R131 hG131 hR131 => ?_
        try simp [h1, h1_, h1__, h3, h3_, h4, h4_]
        repeat' apply And.intro
        any_goals (first | exact hG131 _ (by kernel_rfl) | refine hR131 _ _ _ ?_ | omega | (unfold maxLen; omega) | (simp [h1, h1_, h1__, h3, h3_, h4, h4_]; done) | (simp [h1, h1_, h1__, h3, h3_, h4, h4_]; omega))
        refine AW.wk [(4, AV.bool false)] [] 2 (by simp [h1, h1_, h1__, h3, h3_, h4, h4_]) (by simp [h1, h1_, h1__, h3, h3_, h4, h4_]) (by simp) ?_
        simp only [Option.some.injEq] at hF
        subst hF
        refine AW.ret (hQ _ _ _ ?_ (matchO_0 ?_)).1
        · simp [Try.f174, h1, h1_, h1__, h3, h3_, h4, h4_]
        · simp [h1, h1_, h1__, h3, h3_, h4, h4_]
      · replace hF := ite_f h4 hF
        have h4_ := h4
        try simp at h4_
        by_cases h5 : 8 < (v4.length : Int)
        · replace hF := ite_t h5 hF
          have h5_ := h5
          try simp at h5_
          try simp [h1, h1_, h1__, h3, h3_, h4, h4_, h5, h5_]
          repeat' apply And.intro
          any_goals (first | exact hG128 _ (by kernel_rfl) | refine hR128 _ _ _ ?_ | omega | (unfold maxLen; omega) | (simp [h1, h1_, h1__, h3, h3_, h4, h4_, h5, h5_]; done) | (simp [h1, h1_, h1__, h3, h3_, h4, h4_, h5, h5_]; omega))
          refine AW.wk [(3, AV.ptr 1 0), (39, AV.bool true)] [(1, .cells [AV.lst false false (List.map (AV.int .i64) v3), AV.lst false false (List.map (AV.int .i64) v4), AV.int .i64 v5])] 2 (by simp [h1, h1_, h1__, h3, h3_, h4, h4_, h5, h5_]) (by simp [h1, h1_, h1__, h3, h3_, h4, h4_, h5, h5_]) (by simp) ?_
          refine AW.condT (by decide) (by simp [h1, h1_, h1__, h3, h3_, h4, h4_, h5, h5_]) ?_
          refine AW.seqR mixed [] [none] (by kernel_rfl) fun G132 R132 hG132 hR132 => ?_
          try simp [h1, h1_, h1__, h3, h3_, h4, h4_, h5, h5_]
          repeat' apply And.intro
          any_goals (first | exact hG132 _ (by kernel_rfl) | refine hR132 _ _ _ ?_ | omega | (unfold maxLen; omega) | (simp [h1, h1_, h1__, h3, h3_, h4, h4_, h5, h5_]; done) | (simp [h1, h1_, h1__, h3, h3_, h4, h4_, h5, h5_]; omega))
          refine AW.wk [(4, AV.bool false)] [] 2 (by simp [h1, h1_, h1__, h3, h3_, h4, h4_, h5, h5_]) (by simp [h1, h1_, h1__, h3, h3_, h4, h4_, h5, h5_]) (by simp) ?_
          simp only [Option.some.injEq] at hF
          subst hF
          refine AW.ret (hQ _ _ _ ?_ (matchO_0 ?_)).1
          · simp [Try.f174, h1, h1_, h1__, h3, h3_, h4, h4_, h5, h5_]
          · simp [h1, h1_, h1__, h3, h3_, h4, h4_, h5, h5_]
        · replace hF := ite_f h5 hF
          have h5_ := h5
          try simp at h5_
          by_cases h6 : v5 < 1
          · replace hF := ite_t h6 hF
            have h6_ := h6
            try simp at h6_
            try simp [h1, h1_, h1__, h3, h3_, h4, h4_, h5, h5_, h6, h6_]
            repeat' apply And.intro
            any_goals (first | exact hG128 _ (by kernel_rfl) | refine hR128 _ _ _ ?_ | omega | (unfold maxLen; omega) | (simp [h1, h1_, h1__, h3, h3_, h4, h4_, h5, h5_, h6, h6_]; done) | (simp [h1, h1_, h1__, h3, h3_, h4, h4_, h5, h5_, h6, h6_]; omega))
            refine AW.wk [(3, AV.ptr 1 0), (39, AV.bool true)] [(1, .cells [AV.lst false false (List.map (AV.int .i64) v3), AV.lst false false (List.map (AV.int .i64) v4), AV.int .i64 v5])] 2 (by simp [h1, h1_, h1__, h3, h3_, h4, h4_, h5, h5_, h6, h6_]) (by simp [h1, h1_, h1__, h3, h3_, h4, h4_, h5, h5_, h6, h6_]) (by simp) ?_
            refine AW.condT (by decide) (by simp [h1, h1_, h1__, h3, h3_, h4, h4_, h5, h5_, h6, h6_]) ?_
            refine AW.seqR mixed [] [none] (by kernel_rfl) fun G133 R133 hG133 hR133 => ?_
            try simp [h1, h1_, h1__, h3, h3_, h4, h4_, h5, h5_, h6, h6_]
            repeat' apply And.intro
            any_goals (first | exact hG133 _ (by kernel_rfl) | refine hR133 _ _ _ ?_ | omega | (unfold maxLen; omega) | (simp [h1, h1_, h1__, h3, h3_, h4, h4_, h5, h5_, h6, h6_]; done) | (simp [h1, h1_, h1__, h3, h3_, h4, h4_, h5, h5_, h6, h6_]; omega))
            refine AW.wk [(4, AV.bool false)] [] 2 (by simp [h1, h1_, h1__, h3, h3_, h4, h4_, h5, h5_, h6, h6_]) (by simp [h1, h1_, h1__, h3, h3_, h4, h4_, h5, h5_, h6, h6_]) (by simp) ?_
            simp only [Option.some.injEq] at hF
            subst hF
            refine AW.ret (hQ _ _ _ ?_ (matchO_0 ?_)).1
            · simp [Try.f174, h1, h1_, h1__, h3, h3_, h4, h4_, h5, h5_, h6, h6_]
            · simp [h1, h1_, h1__, h3, h3_, h4, h4_, h5, h5_, h6, h6_]
          · replace hF := ite_f h6 hF
            have h6_ := h6
            try simp at h6_
            try simp [h1, h1_, h1__, h3, h3_, h4, h4_, h5, h5_, h6, h6_]
            repeat' apply And.intro
            any_goals (first | exact hG128 _ (by kernel_rfl) | refine hR128 _ _ _ ?_ | omega | (unfold maxLen; omega) | (simp [h1, h1_, h1__, h3, h3_, h4, h4_, h5, h5_, h6, h6_]; done) | (simp [h1, h1_, h1__, h3, h3_, h4, h4_, h5, h5_, h6, h6_]; omega))
            refine AW.wk [(3, AV.ptr 1 0), (39, AV.bool (decide (3 < v5)))] [(1, .cells [AV.lst false false (List.map (AV.int .i64) v3), AV.lst false false (List.map (AV.int .i64) v4), AV.int .i64 v5])] 2 (by simp [h1, h1_, h1__, h3, h3_, h4, h4_, h5, h5_, h6, h6_]) (by simp [h1, h1_, h1__, h3, h3_, h4, h4_, h5, h5_, h6, h6_]) (by simp) ?_
            by_cases h7 : 3 < v5
            · replace hF := ite_t h7 hF
              have h7_ := h7
              try simp at h7_
              refine AW.condT (by decide) (by first | (simp [h1, h1_, h1__, h3, h3_, h4, h4_, h5, h5_, h6, h6_, h7, h7_]; done) | (simp [h1, h1_, h1__, h3, h3_, h4, h4_, h5, h5_, h6, h6_, h7, h7_]; omega)) ?_
              refine AW.seqR mixed [] [none] (by kernel_rfl) fun G134 R134 hG134 hR134 => ?_
              try simp [h1, h1_, h1__, h3, h3_, h4, h4_, h5, h5_, h6, h6_, h7, h7_]
              repeat' apply And.intro
              any_goals (first | exact hG134 _ (by kernel_rfl) | refine hR134 _ _ _ ?_ | omega | (unfold maxLen; omega) | (simp [h1, h1_, h1__, h3, h3_, h4, h4_, h5, h5_, h6, h6_, h7, h7_]; done) | (simp [h1, h1_, h1__, h3, h3_, h4, h4_, h5, h5_, h6, h6_, h7, h7_]; omega))
              refine AW.wk [(4, AV.bool false)] [] 2 (by simp [h1, h1_, h1__, h3, h3_, h4, h4_, h5, h5_, h6, h6_, h7, h7_]) (by simp [h1, h1_, h1__, h3, h3_, h4, h4_, h5, h5_, h6, h6_, h7, h7_]) (by simp) ?_
              simp only [Option.some.injEq] at hF
              subst hF
              refine AW.ret (hQ _ _ _ ?_ (matchO_0 ?_)).1
              · simp [Try.f174, h1, h1_, h1__, h3, h3_, h4, h4_, h5, h5_, h6, h6_, h7, h7_]
              · simp [h1, h1_, h1__, h3, h3_, h4, h4_, h5, h5_, h6, h6_, h7, h7_]
            · replace hF := ite_f h7 hF
              have h7_ := h7
              try simp at h7_
              refine AW.condF (by decide) (by first | (simp [h1, h1_, h1__, h3, h3_, h4, h4_, h5, h5_, h6, h6_, h7, h7_]; done) | (simp [h1, h1_, h1__, h3, h3_, h4, h4_, h5, h5_, h6, h6_, h7, h7_]; omega)) ?_
              refine AW.skip ?_
              refine hK127 _ _ _ ?_
              refine AW.seq fun K185 hK185 => ?_
              refine AW.seqR mixed [] [none] (by kernel_rfl) fun G186 R186 hG186 hR186 => ?_
              try simp [h1, h1_, h1__, h3, h3_, h4, h4_, h5, h5_, h6, h6_, h7, h7_]
              repeat' apply And.intro
              any_goals (first | exact hG186 _ (by kernel_rfl) | refine hR186 _ _ _ ?_ | omega | (unfold maxLen; omega) | (simp [h1, h1_, h1__, h3, h3_, h4, h4_, h5, h5_, h6, h6_, h7, h7_]; done) | (simp [h1, h1_, h1__, h3, h3_, h4, h4_, h5, h5_, h6, h6_, h7, h7_]; omega))
              refine AW.wk [(3, AV.ptr 1 0), (5, AV.int .i64 0)] [(1, .cells [AV.lst false false (List.map (AV.int .i64) v3), AV.lst false false (List.map (AV.int .i64) v4), AV.int .i64 v5])] 2 (by simp [h1, h1_, h1__, h3, h3_, h4, h4_, h5, h5_, h6, h6_, h7, h7_]) (by simp [h1, h1_, h1__, h3, h3_, h4, h4_, h5, h5_, h6, h6_, h7, h7_]) (by simp) ?_
              refine AW.block ?_
              refine AW.rnm (m := 0) h0 [(0, 1)] [(3, AV.ptr 0 0), (5, AV.int .i64 0)] [(0, .cells [AV.lst false false (List.map (AV.int .i64) v3), AV.lst false false (List.map (AV.int .i64) v4), AV.int .i64 v5])] 1 (by decide) (by decide) (by decide) rfl (by simp [h1, h1_, h1__, h3, h3_, h4, h4_, h5, h5_, h6, h6_, h7, h7_]) (by simp [h1, h1_, h1__, h3, h3_, h4, h4_, h5, h5_, h6, h6_, h7, h7_]) ?_
              refine AW.loopF (α := Int) (fun n v8 => ref13_policy.L1 k v4 n v8 = some v6) (fun v8 => [(3, AV.ptr 0 0), (5, AV.int .i64 v8)]) (fun v8 => [(0, .cells [AV.lst false false (List.map (AV.int .i64) v3), AV.lst false false (List.map (AV.int .i64) v4), AV.int .i64 v5])]) 1 k (0) hF (by simp [h1, h1_, h1__, h3, h3_, h4, h4_, h5, h5_, h6, h6_, h7, h7_]) (by simp [h1, h1_, h1__, h3, h3_, h4, h4_, h5, h5_, h6, h6_, h7, h7_]) (by simp) ?_
              rintro (_|n1) v8 hF K222 hK222
              · try dsimp only at hF
                rw [ref13_policy.L1] at hF; cases hF
              try dsimp only at hF
              rw [ref13_policy.L1] at hF
              refine AW.seq fun K224 hK224 => ?_
              refine AW.seqR mixed [] [none, none, none, none, none] (by kernel_rfl) fun G225 R225 hG225 hR225 => ?_
              try simp [h1, h1_, h1__, h3, h3_, h4, h4_, h5, h5_, h6, h6_, h7, h7_]
              repeat' apply And.intro
              any_goals (first | exact hG225 _ (by kernel_rfl) | refine hR225 _ _ _ ?_ | omega | (unfold maxLen; omega) | (simp [h1, h1_, h1__, h3, h3_, h4, h4_, h5, h5_, h6, h6_, h7, h7_]; done) | (simp [h1, h1_, h1__, h3, h3_, h4, h4_, h5, h5_, h6, h6_, h7, h7_]; omega))
              refine AW.wk [(3, AV.ptr 0 0), (5, AV.int .i64 v8), (44, AV.bool (decide (v8 < (v4.length : Int))))] [(0, .cells [AV.lst false false (List.map (AV.int .i64) v3), AV.lst false false (List.map (AV.int .i64) v4), AV.int .i64 v5])] 1 (by simp [h1, h1_, h1__, h3, h3_, h4, h4_, h5, h5_, h6, h6_, h7, h7_]) (by simp [h1, h1_, h1__, h3, h3_, h4, h4_, h5, h5_, h6, h6_, h7, h7_]) (by simp) ?_
              by_cases h8 : v8 < (v4.length : Int)
              · replace hF := ite_t h8 hF
                have h8_ := h8
                try simp at h8_
                refine AW.condT (by decide) (by first | (simp [h1, h1_, h1__, h3, h3_, h4, h4_, h5, h5_, h6, h6_, h7, h7_, h8, h8_]; done) | (simp [h1, h1_, h1__, h3, h3_, h4, h4_, h5, h5_, h6, h6_, h7, h7_, h8, h8_]; omega)) ?_
                refine AW.skip ?_
                refine hK224 _ _ _ ?_
                refine AW.midF (α := Unit) (fun _ => ref13_policy.J2 k v8 (fun v8_ => ref13_policy.L1 k v4 n1 v8_) = some v6) (fun _ => [(3, AV.ptr 0 0), (5, AV.int .i64 v8)]) (fun _ => [(0, .cells [AV.lst false false (List.map (AV.int .i64) v3), AV.lst false false (List.map (AV.int .i64) v4), AV.int .i64 v5])]) 1 (fun K231 hK231 => ?_) ?_
                · refine AW.block ?_
                  refine AW.seqR mixed [] [none, none, none, none, none, none, none, some (53, false), some (53, false), some (53, false), some (53, false), some (53, false), some (53, false), none, none, some (61, false), some (61, false), some (61, false), some (64, true), some (64, true), some (64, true), some (64, true), some (64, true), some (64, true), some (64, true), some (64, true), some (64, true), some (64, true), some (64, true), some (64, true), some (61, false), none] (by kernel_rfl) fun G232 R232 hG232 hR232 => ?_
                  obtain ⟨v9, h9, h10, h11, hF⟩ := idx_elim hF
                  have h11_ := get_of h11
                  try simp at h11_
                  have h10_ := h10
                  try simp at h10_
                  by_cases h12 : v9 < 1
                  · replace hF := ite_t h12 hF
                    have h12_ := h12
                    try simp at h12_
                    try simp [h1, h1_, h1__, h3, h3_, h4, h4_, h5, h5_, h6, h6_, h7, h7_, h8, h8_, h9, h10, h11, h11_, h10_, h12, h12_]
                    repeat' apply And.intro
                    any_goals (first | exact hG232 _ (by kernel_rfl) | refine hR232 _ _ _ ?_ | omega | (unfold maxLen; omega) | (simp [h1, h1_, h1__, h3, h3_, h4, h4_, h5, h5_, h6, h6_, h7, h7_, h8, h8_, h9, h10, h11, h11_, h10_, h12, h12_]; done) | (simp [h1, h1_, h1__, h3, h3_, h4, h4_, h5, h5_, h6, h6_, h7, h7_, h8, h8_, h9, h10, h11, h11_, h10_, h12, h12_]; omega))
                    refine AW.wk [(3, AV.ptr 0 0), (5, AV.int .i64 v8), (78, AV.bool true)] [(0, .cells [AV.lst false false (List.map (AV.int .i64) v3), AV.lst false false (List.map (AV.int .i64) v4), AV.int .i64 v5])] 1 (by simp [h1, h1_, h1__, h3, h3_, h4, h4_, h5, h5_, h6, h6_, h7, h7_, h8, h8_, h9, h10, h11, h11_, h10_, h12, h12_]) (by simp [h1, h1_, h1__, h3, h3_, h4, h4_, h5, h5_, h6, h6_, h7, h7_, h8, h8_, h9, h10, h11, h11_, h10_, h12, h12_]) (by simp) ?_
                    refine AW.condT (by decide) (by simp [h1, h1_, h1__, h3, h3_, h4, h4_, h5, h5_, h6, h6_, h7, h7_, h8, h8_, h9, h10, h11, h11_, h10_, h12, h12_]) ?_
                    refine AW.seqR mixed [] [none] (by kernel_rfl) fun G233 R233 hG233 hR233 => ?_
                    try simp [h1, h1_, h1__, h3, h3_, h4, h4_, h5, h5_, h6, h6_, h7, h7_, h8, h8_, h9, h10, h11, h11_, h10_, h12, h12_]
                    repeat' apply And.intro
                    any_goals (first | exact hG233 _ (by kernel_rfl) | refine hR233 _ _ _ ?_ | omega | (unfold maxLen; omega) | (simp [h1, h1_, h1__, h3, h3_, h4, h4_, h5, h5_, h6, h6_, h7, h7_, h8, h8_, h9, h10, h11, h11_, h10_, h12, h12_]; done) | (simp [h1, h1_, h1__, h3, h3_, h4, h4_, h5, h5_, h6, h6_, h7, h7_, h8, h8_, h9, h10, h11, h11_, h10_, h12, h12_]; omega))
                    refine AW.wk [(4, AV.bool false)] [] 1 (by simp [h1, h1_, h1__, h3, h3_, h4, h4_, h5, h5_, h6, h6_, h7, h7_, h8, h8_, h9, h10, h11, h11_, h10_, h12, h12_]) (by simp [h1, h1_, h1__, h3, h3_, h4, h4_, h5, h5_, h6, h6_, h7, h7_, h8, h8_, h9, h10, h11, h11_, h10_, h12, h12_]) (by simp) ?_
                    simp only [Option.some.injEq] at hF
                    subst hF
                    refine AW.ret (hQ _ _ _ ?_ (matchO_0 ?_)).1
                    · simp [Try.f174, h1, h1_, h1__, h3, h3_, h4, h4_, h5, h5_, h6, h6_, h7, h7_, h8, h8_, h9, h10, h11, h11_, h10_, h12, h12_]
                    · simp [h1, h1_, h1__, h3, h3_, h4, h4_, h5, h5_, h6, h6_, h7, h7_, h8, h8_, h9, h10, h11, h11_, h10_, h12, h12_]
                  · replace hF := ite_f h12 hF
                    have h12_ := h12
                    try simp at h12_
                    by_cases h13 : 1000 < v9
                    · replace hF := ite_t h13 hF
                      have h13_ := h13
                      try simp at h13_
                      try simp [h1, h1_, h1__, h3, h3_, h4, h4_, h5, h5_, h6, h6_, h7, h7_, h8, h8_, h9, h10, h11, h11_, h10_, h12, h12_, h13, h13_]
                      repeat' apply And.intro
                      any_goals (first | exact hG232 _ (by kernel_rfl) | refine hR232 _ _ _ ?_ | omega | (unfold maxLen; omega) | (simp [h1, h1_, h1__, h3, h3_, h4, h4_, h5, h5_, h6, h6_, h7, h7_, h8, h8_, h9, h10, h11, h11_, h10_, h12, h12_, h13, h13_]; done) | (simp [h1, h1_, h1__, h3, h3_, h4, h4_, h5, h5_, h6, h6_, h7, h7_, h8, h8_, h9, h10, h11, h11_, h10_, h12, h12_, h13, h13_]; omega))
                      refine AW.wk [(3, AV.ptr 0 0), (5, AV.int .i64 v8), (78, AV.bool true)] [(0, .cells [AV.lst false false (List.map (AV.int .i64) v3), AV.lst false false (List.map (AV.int .i64) v4), AV.int .i64 v5])] 1 (by simp [h1, h1_, h1__, h3, h3_, h4, h4_, h5, h5_, h6, h6_, h7, h7_, h8, h8_, h9, h10, h11, h11_, h10_, h12, h12_, h13, h13_]) (by simp [h1, h1_, h1__, h3, h3_, h4, h4_, h5, h5_, h6, h6_, h7, h7_, h8, h8_, h9, h10, h11, h11_, h10_, h12, h12_, h13, h13_]) (by simp) ?_
                      refine AW.condT (by decide) (by simp [h1, h1_, h1__, h3, h3_, h4, h4_, h5, h5_, h6, h6_, h7, h7_, h8, h8_, h9, h10, h11, h11_, h10_, h12, h12_, h13, h13_]) ?_
                      refine AW.seqR mixed [] [none] (by kernel_rfl) fun G234 R234 hG234 hR234 => ?_
                      try simp [h1, h1_, h1__, h3, h3_, h4, h4_, h5, h5_, h6, h6_, h7, h7_, h8, h8_, h9, h10, h11, h11_, h10_, h12, h12_, h13, h13_]
                      repeat' apply And.intro
                      any_goals (first | exact hG234 _ (by kernel_rfl) | refine hR234 _ _ _ ?_ | omega | (unfold maxLen; omega) | (simp [h1, h1_, h1__, h3, h3_, h4, h4_, h5, h5_, h6, h6_, h7, h7_, h8, h8_, h9, h10, h11, h11_, h10_, h12, h12_, h13, h13_]; done) | (simp [h1, h1_, h1__, h3, h3_, h4, h4_, h5, h5_, h6, h6_, h7, h7_, h8, h8_, h9, h10, h11, h11_, h10_, h12, h12_, h13, h13_]; omega))
                      refine AW.wk [(4, AV.bool false)] [] 1 (by simp [h1, h1_, h1__, h3, h3_, h4, h4_, h5, h5_, h6, h6_, h7, h7_, h8, h8_, h9, h10, h11, h11_, h10_, h12, h12_, h13, h13_]) (by simp [h1, h1_, h1__, h3, h3_, h4, h4_, h5, h5_, h6, h6_, h7, h7_, h8, h8_, h9, h10, h11, h11_, h10_, h12, h12_, h13, h13_]) (by simp) ?_
                      simp only [Option.some.injEq] at hF
                      subst hF
                      refine AW.ret (hQ _ _ _ ?_ (matchO_0 ?_)).1
                      · simp [Try.f174, h1, h1_, h1__, h3, h3_, h4, h4_, h5, h5_, h6, h6_, h7, h7_, h8, h8_, h9, h10, h11, h11_, h10_, h12, h12_, h13, h13_]
                      · simp [h1, h1_, h1__, h3, h3_, h4, h4_, h5, h5_, h6, h6_, h7, h7_, h8, h8_, h9, h10, h11, h11_, h10_, h12, h12_, h13, h13_]
                    · replace hF := ite_f h13 hF
                      have h13_ := h13
                      try simp at h13_
                      by_cases h14 : 0 < v8
                      · replace hF := ite_t h14 hF
                        have h14_ := h14
                        try simp at h14_
                        obtain ⟨v10, h15, h16, h17, hF⟩ := idx_elim hF
                        have h17_ := get_of h17
                        try simp at h17_
                        have h16_ := h16
                        try simp at h16_
                        try simp [h1, h1_, h1__, h3, h3_, h4, h4_, h5, h5_, h6, h6_, h7, h7_, h8, h8_, h9, h10, h11, h11_, h10_, h12, h12_, h13, h13_, h14, h14_, h15, h16, h17, h17_, h16_]
                        repeat' apply And.intro
                        any_goals (first | exact hG232 _ (by kernel_rfl) | refine hR232 _ _ _ ?_ | omega | (unfold maxLen; omega) | (simp [h1, h1_, h1__, h3, h3_, h4, h4_, h5, h5_, h6, h6_, h7, h7_, h8, h8_, h9, h10, h11, h11_, h10_, h12, h12_, h13, h13_, h14, h14_, h15, h16, h17, h17_, h16_]; done) | (simp [h1, h1_, h1__, h3, h3_, h4, h4_, h5, h5_, h6, h6_, h7, h7_, h8, h8_, h9, h10, h11, h11_, h10_, h12, h12_, h13, h13_, h14, h14_, h15, h16, h17, h17_, h16_]; omega))
                        refine AW.wk [(3, AV.ptr 0 0), (5, AV.int .i64 v8), (78, AV.bool (decide (v10 < v9)))] [(0, .cells [AV.lst false false (List.map (AV.int .i64) v3), AV.lst false false (List.map (AV.int .i64) v4), AV.int .i64 v5])] 1 (by simp [h1, h1_, h1__, h3, h3_, h4, h4_, h5, h5_, h6, h6_, h7, h7_, h8, h8_, h9, h10, h11, h11_, h10_, h12, h12_, h13, h13_, h14, h14_, h15, h16, h17, h17_, h16_]) (by simp [h1, h1_, h1__, h3, h3_, h4, h4_, h5, h5_, h6, h6_, h7, h7_, h8, h8_, h9, h10, h11, h11_, h10_, h12, h12_, h13, h13_, h14, h14_, h15, h16, h17, h17_, h16_]) (by simp) ?_
                        by_cases h18 : v10 < v9
                        · replace hF := ite_t h18 hF
                          have h18_ := h18
                          try simp at h18_
                          refine AW.condT (by decide) (by first | (simp [h1, h1_, h1__, h3, h3_, h4, h4_, h5, h5_, h6, h6_, h7, h7_, h8, h8_, h9, h10, h11, h11_, h10_, h12, h12_, h13, h13_, h14, h14_, h15, h16, h17, h17_, h16_, h18, h18_]; done) | (simp [h1, h1_, h1__, h3, h3_, h4, h4_, h5, h5_, h6, h6_, h7, h7_, h8, h8_, h9, h10, h11, h11_, h10_, h12, h12_, h13, h13_, h14, h14_, h15, h16, h17, h17_, h16_, h18, h18_]; omega)) ?_
                          refine AW.seqR mixed [] [none] (by kernel_rfl) fun G235 R235 hG235 hR235 => ?_
                          try simp [h1, h1_, h1__, h3, h3_, h4, h4_, h5, h5_, h6, h6_, h7, h7_, h8, h8_, h9, h10, h11, h11_, h10_, h12, h12_, h13, h13_, h14, h14_, h15, h16, h17, h17_, h16_, h18, h18_]
                          repeat' apply And.intro
                          any_goals (first | exact hG235 _ (by kernel_rfl) | refine hR235 _ _ _ ?_ | omega | (unfold maxLen; omega) | (simp [h1, h1_, h1__, h3, h3_, h4, h4_, h5, h5_, h6, h6_, h7, h7_, h8, h8_, h9, h10, h11, h11_, h10_, h12, h12_, h13, h13_, h14, h14_, h15, h16, h17, h17_, h16_, h18, h18_]; done) | (simp [h1, h1_, h1__, h3, h3_, h4, h4_, h5, h5_, h6, h6_, h7, h7_, h8, h8_, h9, h10, h11, h11_, h10_, h12, h12_, h13, h13_, h14, h14_, h15, h16, h17, h17_, h16_, h18, h18_]; omega))
                          refine AW.wk [(4, AV.bool false)] [] 1 (by simp [h1, h1_, h1__, h3, h3_, h4, h4_, h5, h5_, h6, h6_, h7, h7_, h8, h8_, h9, h10, h11, h11_, h10_, h12, h12_, h13, h13_, h14, h14_, h15, h16, h17, h17_, h16_, h18, h18_]) (by simp [h1, h1_, h1__, h3, h3_, h4, h4_, h5, h5_, h6, h6_, h7, h7_, h8, h8_, h9, h10, h11, h11_, h10_, h12, h12_, h13, h13_, h14, h14_, h15, h16, h17, h17_, h16_, h18, h18_]) (by simp) ?_
                          simp only [Option.some.injEq] at hF
                          subst hF
                          refine AW.ret (hQ _ _ _ ?_ (matchO_0 ?_)).1
                          · simp [Try.f174, h1, h1_, h1__, h3, h3_, h4, h4_, h5, h5_, h6, h6_, h7, h7_, h8, h8_, h9, h10, h11, h11_, h10_, h12, h12_, h13, h13_, h14, h14_, h15, h16, h17, h17_, h16_, h18, h18_]
                          · simp [h1, h1_, h1__, h3, h3_, h4, h4_, h5, h5_, h6, h6_, h7, h7_, h8, h8_, h9, h10, h11, h11_, h10_, h12, h12_, h13, h13_, h14, h14_, h15, h16, h17, h17_, h16_, h18, h18_]
                        · replace hF := ite_f h18 hF
                          have h18_ := h18
                          try simp at h18_
                          refine AW.condF (by decide) (by first | (simp [h1, h1_, h1__, h3, h3_, h4, h4_, h5, h5_, h6, h6_, h7, h7_, h8, h8_, h9, h10, h11, h11_, h10_, h12, h12_, h13, h13_, h14, h14_, h15, h16, h17, h17_, h16_, h18, h18_]; done) | (simp [h1, h1_, h1__, h3, h3_, h4, h4_, h5, h5_, h6, h6_, h7, h7_, h8, h8_, h9, h10, h11, h11_, h10_, h12, h12_, h13, h13_, h14, h14_, h15, h16, h17, h17_, h16_, h18, h18_]; omega)) ?_
                          refine AW.skip ?_
                          refine hK231 _ _ _ ?_
                          exact Can.join (()) hF (by simp [h1, h1_, h1__, h3, h3_, h4, h4_, h5, h5_, h6, h6_, h7, h7_, h8, h8_, h9, h10, h11, h11_, h10_, h12, h12_, h13, h13_, h14, h14_, h15, h16, h17, h17_, h16_, h18, h18_]) (by simp [h1, h1_, h1__, h3, h3_, h4, h4_, h5, h5_, h6, h6_, h7, h7_, h8, h8_, h9, h10, h11, h11_, h10_, h12, h12_, h13, h13_, h14, h14_, h15, h16, h17, h17_, h16_, h18, h18_]) (by simp)
                      · replace hF := ite_f h14 hF
                        have h14_ := h14
                        try simp at h14_
                        try simp [h1, h1_, h1__, h3, h3_, h4, h4_, h5, h5_, h6, h6_, h7, h7_, h8, h8_, h9, h10, h11, h11_, h10_, h12, h12_, h13, h13_, h14, h14_]
                        repeat' apply And.intro
                        any_goals (first | exact hG232 _ (by kernel_rfl) | refine hR232 _ _ _ ?_ | omega | (unfold maxLen; omega) | (simp [h1, h1_, h1__, h3, h3_, h4, h4_, h5, h5_, h6, h6_, h7, h7_, h8, h8_, h9, h10, h11, h11_, h10_, h12, h12_, h13, h13_, h14, h14_]; done) | (simp [h1, h1_, h1__, h3, h3_, h4, h4_, h5, h5_, h6, h6_, h7, h7_, h8, h8_, h9, h10, h11, h11_, h10_, h12, h12_, h13, h13_, h14, h14_]; omega))
                        refine AW.wk [(3, AV.ptr 0 0), (5, AV.int .i64 v8), (78, AV.bool false)] [(0, .cells [AV.lst false false (List.map (AV.int .i64) v3), AV.lst false false (List.map (AV.int .i64) v4), AV.int .i64 v5])] 1 (by simp [h1, h1_, h1__, h3, h3_, h4, h4_, h5, h5_, h6, h6_, h7, h7_, h8, h8_, h9, h10, h11, h11_, h10_, h12, h12_, h13, h13_, h14, h14_]) (by simp [h1, h1_, h1__, h3, h3_, h4, h4_, h5, h5_, h6, h6_, h7, h7_, h8, h8_, h9, h10, h11, h11_, h10_, h12, h12_, h13, h13_, h14, h14_]) (by simp) ?_
                        refine AW.condF (by decide) (by simp [h1, h1_, h1__, h3, h3_, h4, h4_, h5, h5_, h6, h6_, h7, h7_, h8, h8_, h9, h10, h11, h11_, h10_, h12, h12_, h13, h13_, h14, h14_]) ?_
                        refine AW.skip ?_
                        refine hK231 _ _ _ ?_
                        exact Can.join (()) hF (by simp [h1, h1_, h1__, h3, h3_, h4, h4_, h5, h5_, h6, h6_, h7, h7_, h8, h8_, h9, h10, h11, h11_, h10_, h12, h12_, h13, h13_, h14, h14_]) (by simp [h1, h1_, h1__, h3, h3_, h4, h4_, h5, h5_, h6, h6_, h7, h7_, h8, h8_, h9, h10, h11, h11_, h10_, h12, h12_, h13, h13_, h14, h14_]) (by simp)
                · rintro ⟨⟩ hF
                  try dsimp only at hF
                  unfold ref13_policy.J2 at hF
                  refine AW.region mixed [] [none, none, none] (by kernel_rfl) fun G230 R230 hG230 hR230 => ?_
                  try simp [h1, h1_, h1__, h3, h3_, h4, h4_, h5, h5_, h6, h6_, h7, h7_, h8, h8_]
                  repeat' apply And.intro
                  any_goals (first | exact hG230 _ (by kernel_rfl) | refine hR230 _ _ _ ?_ | omega | (unfold maxLen; omega) | (simp [h1, h1_, h1__, h3, h3_, h4, h4_, h5, h5_, h6, h6_, h7, h7_, h8, h8_]; done) | (simp [h1, h1_, h1__, h3, h3_, h4, h4_, h5, h5_, h6, h6_, h7, h7_, h8, h8_]; omega))
                  refine hK222 _ _ _ ?_
                  refine Can.weak [(3, AV.ptr 0 0), (5, AV.int .i64 (IntKind.wrap .i64 (v8 + 1)))] [(0, .cells [AV.lst false false (List.map (AV.int .i64) v3), AV.lst false false (List.map (AV.int .i64) v4), AV.int .i64 v5])] 1 (by simp [h1, h1_, h1__, h3, h3_, h4, h4_, h5, h5_, h6, h6_, h7, h7_, h8, h8_]) (by simp [h1, h1_, h1__, h3, h3_, h4, h4_, h5, h5_, h6, h6_, h7, h7_, h8, h8_]) (by simp) ?_
                  exact Can.next (k' := n1) (IntKind.wrap .i64 (v8 + 1)) (by omega) hF (by simp [h1, h1_, h1__, h3, h3_, h4, h4_, h5, h5_, h6, h6_, h7, h7_, h8, h8_]) (by simp [h1, h1_, h1__, h3, h3_, h4, h4_, h5, h5_, h6, h6_, h7, h7_, h8, h8_]) (by simp)
              · replace hF := ite_f h8 hF
                have h8_ := h8
                try simp at h8_
                refine AW.condF (by decide) (by first | (simp [h1, h1_, h1__, h3, h3_, h4, h4_, h5, h5_, h6, h6_, h7, h7_, h8, h8_]; done) | (simp [h1, h1_, h1__, h3, h3_, h4, h4_, h5, h5_, h6, h6_, h7, h7_, h8, h8_]; omega)) ?_
                refine AW.exit ?_
                try simp
                refine hK185 _ _ _ ?_
                refine AW.seqR mixed [] [none] (by kernel_rfl) fun G236 R236 hG236 hR236 => ?_
                try simp [h1, h1_, h1__, h3, h3_, h4, h4_, h5, h5_, h6, h6_, h7, h7_, h8, h8_]
                repeat' apply And.intro
                any_goals (first | exact hG236 _ (by kernel_rfl) | refine hR236 _ _ _ ?_ | omega | (unfold maxLen; omega) | (simp [h1, h1_, h1__, h3, h3_, h4, h4_, h5, h5_, h6, h6_, h7, h7_, h8, h8_]; done) | (simp [h1, h1_, h1__, h3, h3_, h4, h4_, h5, h5_, h6, h6_, h7, h7_, h8, h8_]; omega))
                refine AW.wk [(4, AV.bool true)] [] 1 (by simp [h1, h1_, h1__, h3, h3_, h4, h4_, h5, h5_, h6, h6_, h7, h7_, h8, h8_]) (by simp [h1, h1_, h1__, h3, h3_, h4, h4_, h5, h5_, h6, h6_, h7, h7_, h8, h8_]) (by simp) ?_
                simp only [Option.some.injEq] at hF
                subst hF
                refine AW.ret (hQ _ _ _ ?_ (matchO_0 ?_)).1
                · simp [Try.f174, h1, h1_, h1__, h3, h3_, h4, h4_, h5, h5_, h6, h6_, h7, h7_, h8, h8_]
                · simp [h1, h1_, h1__, h3, h3_, h4, h4_, h5, h5_, h6, h6_, h7, h7_, h8, h8_]
set_option maxHeartbeats 4000000 in
theorem w_ref13_Check (k : Nat) (v0 : Int) (v1 : (List api_Edge)) (v2 : (List Int)) (v3 : (List Int)) (v4 : (List Int)) (v5 : Int) (v6 : Int) (hF : ref13_Check k v0 v1 v2 v3 v4 v5 = some v6) :
    FCall Try.prog 124 [AV.agg [AV.int .i64 v0, AV.lst false false (List.map api_Edge.av v1), AV.lst false false (List.map (AV.int .i64) v2)], AV.agg [AV.lst false false (List.map (AV.int .i64) v3), AV.lst false false (List.map (AV.int .i64) v4), AV.int .i64 v5]] [] (AV.int .i64 v6) [] := by
  unfold ref13_Check at hF
  refine FCall.enter Try.func124 rfl (by simp) (by decide) (by simp) (by simp) (by simp) (by simp) (by simp) ?_
  intro c0 w0 Q h0 hQ
  refine AW.wk [(0, AV.agg [AV.int .i64 v0, AV.lst false false (List.map api_Edge.av v1), AV.lst false false (List.map (AV.int .i64) v2)]), (1, AV.agg [AV.lst false false (List.map (AV.int .i64) v3), AV.lst false false (List.map (AV.int .i64) v4), AV.int .i64 v5])] [] 0 (by simp) (by simp) (by simp) ?_
  refine AW.seqR mixed [] [none, none, none] (by kernel_rfl) fun G13 R13 hG13 hR13 => ?_
  try simp
  repeat' apply And.intro
  any_goals (first | exact hG13 _ (by kernel_rfl) | refine hR13 _ _ _ ?_ | omega | (unfold maxLen; omega) | (simp; done) | (simp; omega))
  refine AW.wk [(2, AV.ptr 0 0), (3, AV.ptr 1 0)] [(0, .cells [AV.int .i64 v0, AV.lst false false (List.map api_Edge.av v1), AV.lst false false (List.map (AV.int .i64) v2)]), (1, .cells [AV.lst false false (List.map (AV.int .i64) v3), AV.lst false false (List.map (AV.int .i64) v4), AV.int .i64 v5])] 2 (by simp) (by simp) (by simp) ?_
  refine AW.seq fun K16 hK16 => ?_
  refine AW.seqR mixed [] [none, none, none] (by kernel_rfl) fun G17 R17 hG17 hR17 => ?_
  try simp
  repeat' apply And.intro
  try any_goals (first | omega | (unfold maxLen; omega) | (simp; done))
  obtain ⟨v7, h1, hF⟩ := bnd1_elim hF
  refine aCall_l (w_ref11_Check k _ _ _ _ h1) (by simp) [] [] [] rfl (.cons (.same (by simp)) .nil) (by simp) (by decide) (by simp) (by simp) (.inl rfl) (by simp) (by simp) ?_
  try simp
  repeat' apply And.intro
  any_goals (first | exact hG17 _ (by kernel_rfl) | refine hR17 _ _ _ ?_ | omega | (unfold maxLen; omega) | (simp; done) | (simp; omega))
  refine AW.wk [(2, AV.ptr 0 0), (3, AV.ptr 1 0), (7, AV.bool (v7 != 0))] [(0, .cells [AV.int .i64 v0, AV.lst false false (List.map api_Edge.av v1), AV.lst false false (List.map (AV.int .i64) v2)]), (1, .cells [AV.lst false false (List.map (AV.int .i64) v3), AV.lst false false (List.map (AV.int .i64) v4), AV.int .i64 v5])] 2 (by simp) (by simp) (by simp) ?_
  by_cases h2 : v7 ≠ 0
  · replace hF := ite_t h2 hF
    have h2_ := eqb_f h2
    have h2__ := neb_t h2
    refine AW.condT (by decide) (by first | (simp [h2, h2_, h2__]; done) | (simp [h2, h2_, h2__]; omega)) ?_
    refine AW.seqR mixed [] [none] (by kernel_rfl) fun G18 R18 hG18 hR18 => ?_
    try simp [h2, h2_, h2__]
    repeat' apply And.intro
    any_goals (first | exact hG18 _ (by kernel_rfl) | refine hR18 _ _ _ ?_ | omega | (unfold maxLen; omega) | (simp [h2, h2_, h2__]; done) | (simp [h2, h2_, h2__]; omega))
    refine AW.wk [(4, AV.int .i64 14)] [] 2 (by simp [h2, h2_, h2__]) (by simp [h2, h2_, h2__]) (by simp) ?_
    simp only [Option.some.injEq] at hF
    subst hF
    refine AW.ret (hQ _ _ _ ?_ (matchO_0 ?_)).1
    · simp [Try.f124, h2, h2_, h2__]
    · simp [h2, h2_, h2__]
  · replace hF := ite_f h2 hF
    have h2q : v7 = 0 := Classical.not_not.1 h2
    have h2_ := eqb_t h2q
    have h2__ := neb_f h2q
    refine AW.condF (by decide) (by first | (simp [h2_, h2__, h2q]; done) | (simp [h2_, h2__, h2q]; omega)) ?_
    refine AW.skip ?_
    refine hK16 _ _ _ ?_
    refine AW.seq fun K21 hK21 => ?_
    refine AW.seqR mixed [] [none, none, none, none] (by kernel_rfl) fun G22 R22 hG22 hR22 => ?_
    try simp [h2_, h2__, h2q]
    repeat' apply And.intro
    try any_goals (first | omega | (unfold maxLen; omega) | (simp [h2_, h2__, h2q]; done))
    obtain ⟨v8, h3, hF⟩ := bnd1_elim hF
    refine aCall_l (w_ref13_policy k _ _ _ _ _ _ _ h3) (by simp) [] [] [] rfl (.cons (.same (by simp [h2_, h2__, h2q])) (.cons (.same (by simp [h2_, h2__, h2q])) .nil)) (by simp [h2_, h2__, h2q]) (by decide) (by simp) (by simp) (.inl rfl) (by simp) (by simp) ?_
    try simp [h2_, h2__, h2q]
    repeat' apply And.intro
    any_goals (first | exact hG22 _ (by kernel_rfl) | refine hR22 _ _ _ ?_ | omega | (unfold maxLen; omega) | (simp [h2_, h2__, h2q]; done) | (simp [h2_, h2__, h2q]; omega))
    refine AW.wk [(11, AV.bool (!v8))] [] 2 (by simp [h2_, h2__, h2q]) (by simp [h2_, h2__, h2q]) (by simp) ?_
    by_cases h4 : (!v8) = true
    · replace hF := ite_t h4 hF
      have h4_ := h4
      try simp at h4_
      refine AW.condT (by decide) (by first | (simp [h2_, h2__, h2q, h4, h4_]; done) | (simp [h2_, h2__, h2q, h4, h4_]; omega)) ?_
      refine AW.seqR mixed [] [none] (by kernel_rfl) fun G23 R23 hG23 hR23 => ?_
      try simp [h2_, h2__, h2q, h4, h4_]
      repeat' apply And.intro
      any_goals (first | exact hG23 _ (by kernel_rfl) | refine hR23 _ _ _ ?_ | omega | (unfold maxLen; omega) | (simp [h2_, h2__, h2q, h4, h4_]; done) | (simp [h2_, h2__, h2q, h4, h4_]; omega))
      refine AW.wk [(4, AV.int .i64 15)] [] 2 (by simp [h2_, h2__, h2q, h4, h4_]) (by simp [h2_, h2__, h2q, h4, h4_]) (by simp) ?_
      simp only [Option.some.injEq] at hF
      subst hF
      refine AW.ret (hQ _ _ _ ?_ (matchO_0 ?_)).1
      · simp [Try.f124, h2_, h2__, h2q, h4, h4_]
      · simp [h2_, h2__, h2q, h4, h4_]
    · replace hF := ite_f h4 hF
      have h4_ := h4
      try simp at h4_
      refine AW.condF (by decide) (by first | (simp [h2_, h2__, h2q, h4, h4_]; done) | (simp [h2_, h2__, h2q, h4, h4_]; omega)) ?_
      refine AW.skip ?_
      refine hK21 _ _ _ ?_
      refine AW.seqR mixed [] [none] (by kernel_rfl) fun G24 R24 hG24 hR24 => ?_
      try simp [h2_, h2__, h2q, h4, h4_]
      repeat' apply And.intro
      any_goals (first | exact hG24 _ (by kernel_rfl) | refine hR24 _ _ _ ?_ | omega | (unfold maxLen; omega) | (simp [h2_, h2__, h2q, h4, h4_]; done) | (simp [h2_, h2__, h2q, h4, h4_]; omega))
      refine AW.wk [(4, AV.int .i64 0)] [] 2 (by simp [h2_, h2__, h2q, h4, h4_]) (by simp [h2_, h2__, h2q, h4, h4_]) (by simp) ?_
      simp only [Option.some.injEq] at hF
      subst hF
      refine AW.ret (hQ _ _ _ ?_ (matchO_0 ?_)).1
      · simp [Try.f124, h2_, h2__, h2q, h4, h4_]
      · simp [h2_, h2__, h2q, h4, h4_]
set_option maxHeartbeats 4000000 in
theorem w_ref24_Check (k : Nat) (v0 : (List Int)) (v1 : (List Int)) (v2 : (List Int)) (v3 : Int) (v4 : Int) (v5 : Int) (v6 : Int) (v7 : Int) (hF : ref24_Check k v0 v1 v2 v3 v4 v5 v6 = some v7) :
    FCall Try.prog 53 [AV.agg [AV.lst false false (List.map (AV.int .i64) v0), AV.lst false false (List.map (AV.int .i64) v1), AV.lst false false (List.map (AV.int .i64) v2), AV.int .i64 v3, AV.int .i64 v4, AV.int .i64 v5, AV.int .i64 v6]] [] (AV.int .i64 v7) [] := by
  unfold ref24_Check at hF
  refine FCall.enter Try.func53 rfl (by simp) (by decide) (by simp) (by simp) (by simp) (by simp) (by simp) ?_
  intro c0 w0 Q h0 hQ
  refine AW.wk [(0, AV.agg [AV.lst false false (List.map (AV.int .i64) v0), AV.lst false false (List.map (AV.int .i64) v1), AV.lst false false (List.map (AV.int .i64) v2), AV.int .i64 v3, AV.int .i64 v4, AV.int .i64 v5, AV.int .i64 v6])] [] 0 (by simp) (by simp) (by simp) ?_
  refine AW.seqR mixed [] [none, none] (by kernel_rfl) fun G30 R30 hG30 hR30 => ?_
  try simp
  repeat' apply And.intro
  any_goals (first | exact hG30 _ (by kernel_rfl) | refine hR30 _ _ _ ?_ | omega | (unfold maxLen; omega) | (simp; done) | (simp; omega))
  refine AW.wk [(1, AV.ptr 0 0)] [(0, .cells [AV.lst false false (List.map (AV.int .i64) v0), AV.lst false false (List.map (AV.int .i64) v1), AV.lst false false (List.map (AV.int .i64) v2), AV.int .i64 v3, AV.int .i64 v4, AV.int .i64 v5, AV.int .i64 v6])] 1 (by simp) (by simp) (by simp) ?_
  refine AW.seq fun K33 hK33 => ?_
  refine AW.seqR mixed [] [none, none, none, none] (by kernel_rfl) fun G34 R34 hG34 hR34 => ?_
  try simp
  repeat' apply And.intro
  try any_goals (first | omega | (unfold maxLen; omega) | (simp; done))
  obtain ⟨v8, h1, hF⟩ := bnd1_elim hF
  refine aCall_l (w_ref24_Valid k _ _ h1) (by simp) [] [] [] rfl (.cons (.same (by simp)) .nil) (by simp) (by decide) (by simp) (by simp) (.inl rfl) (by simp) (by simp) ?_
  try simp
  repeat' apply And.intro
  any_goals (first | exact hG34 _ (by kernel_rfl) | refine hR34 _ _ _ ?_ | omega | (unfold maxLen; omega) | (simp; done) | (simp; omega))
  refine AW.wk [(1, AV.ptr 0 0), (7, AV.bool (!v8))] [(0, .cells [AV.lst false false (List.map (AV.int .i64) v0), AV.lst false false (List.map (AV.int .i64) v1), AV.lst false false (List.map (AV.int .i64) v2), AV.int .i64 v3, AV.int .i64 v4, AV.int .i64 v5, AV.int .i64 v6])] 1 (by simp) (by simp) (by simp) ?_
  by_cases h2 : (!v8) = true
  · replace hF := ite_t h2 hF
    have h2_ := h2
    try simp at h2_
    refine AW.condT (by decide) (by first | (simp [h2, h2_]; done) | (simp [h2, h2_]; omega)) ?_
    refine AW.seqR mixed [] [none] (by kernel_rfl) fun G35 R35 hG35 hR35 => ?_
    try simp [h2, h2_]
    repeat' apply And.intro
    any_goals (first | exact hG35 _ (by kernel_rfl) | refine hR35 _ _ _ ?_ | omega | (unfold maxLen; omega) | (simp [h2, h2_]; done) | (simp [h2, h2_]; omega))
    refine AW.wk [(2, AV.int .i64 43)] [] 1 (by simp [h2, h2_]) (by simp [h2, h2_]) (by simp) ?_
    simp only [Option.some.injEq] at hF
    subst hF
    refine AW.ret (hQ _ _ _ ?_ (matchO_0 ?_)).1
    · simp [Try.f53, h2, h2_]
    · simp [h2, h2_]
  · replace hF := ite_f h2 hF
    have h2_ := h2
    try simp at h2_
    refine AW.condF (by decide) (by first | (simp [h2, h2_]; done) | (simp [h2, h2_]; omega)) ?_
    refine AW.skip ?_
    refine hK33 _ _ _ ?_
    refine AW.seq fun K39 hK39 => ?_
    refine AW.seqR mixed [] [none, none, none, none, none] (by kernel_rfl) fun G40 R40 hG40 hR40 => ?_
    try simp [h2, h2_]
    repeat' apply And.intro
    try any_goals (first | omega | (unfold maxLen; omega) | (simp [h2, h2_]; done))
    obtain ⟨v9, h3, hF⟩ := bnd1_elim hF
    refine aCall_l (w_ref13_Check k _ _ _ _ _ _ _ h3) (by simp) [] [] [] rfl (.cons (.agg (.cons (.same (by simp [h2, h2_])) (.cons (Coe.fl (by simp [h2, h2_])) (.cons (Coe.fl (by simp [h2, h2_])) .nil)))) (.cons (.same (by simp [h2, h2_])) .nil)) (by simp [h2, h2_]) (by decide) (by simp) (by simp) (.inl rfl) (by simp) (by simp) ?_
    try simp [h2, h2_]
    repeat' apply And.intro
    any_goals (first | exact hG40 _ (by kernel_rfl) | refine hR40 _ _ _ ?_ | omega | (unfold maxLen; omega) | (simp [h2, h2_]; done) | (simp [h2, h2_]; omega))
    refine AW.wk [(1, AV.ptr 0 0), (3, AV.int .i64 v9)] [(0, .cells [AV.lst false false (List.map (AV.int .i64) v0), AV.lst false false (List.map (AV.int .i64) v1), AV.lst false false (List.map (AV.int .i64) v2), AV.int .i64 v3, AV.int .i64 v4, AV.int .i64 v5, AV.int .i64 v6])] 1 (by simp [h2, h2_]) (by simp [h2, h2_]) (by simp) ?_
    refine AW.seqR mixed [] [none, none] (by kernel_rfl) fun G41 R41 hG41 hR41 => ?_
    try simp [h2, h2_]
    repeat' apply And.intro
    any_goals (first | exact hG41 _ (by kernel_rfl) | refine hR41 _ _ _ ?_ | omega | (unfold maxLen; omega) | (simp [h2, h2_]; done) | (simp [h2, h2_]; omega))
    refine AW.wk [(1, AV.ptr 0 0), (3, AV.int .i64 v9), (13, AV.bool (v9 != 0))] [(0, .cells [AV.lst false false (List.map (AV.int .i64) v0), AV.lst false false (List.map (AV.int .i64) v1), AV.lst false false (List.map (AV.int .i64) v2), AV.int .i64 v3, AV.int .i64 v4, AV.int .i64 v5, AV.int .i64 v6])] 1 (by simp [h2, h2_]) (by simp [h2, h2_]) (by simp) ?_
    by_cases h4 : v9 ≠ 0
    · replace hF := ite_t h4 hF
      have h4_ := eqb_f h4
      have h4__ := neb_t h4
      refine AW.condT (by decide) (by first | (simp [h2, h2_, h4, h4_, h4__]; done) | (simp [h2, h2_, h4, h4_, h4__]; omega)) ?_
      refine AW.seqR mixed [] [none, none] (by kernel_rfl) fun G42 R42 hG42 hR42 => ?_
      try simp [h2, h2_, h4, h4_, h4__]
      repeat' apply And.intro
      any_goals (first | exact hG42 _ (by kernel_rfl) | refine hR42 _ _ _ ?_ | omega | (unfold maxLen; omega) | (simp [h2, h2_, h4, h4_, h4__]; done) | (simp [h2, h2_, h4, h4_, h4__]; omega))
      refine AW.wk [(2, AV.int .i64 v9)] [] 1 (by simp [h2, h2_, h4, h4_, h4__]) (by simp [h2, h2_, h4, h4_, h4__]) (by simp) ?_
      simp only [Option.some.injEq] at hF
      subst hF
      refine AW.ret (hQ _ _ _ ?_ (matchO_0 ?_)).1
      · simp [Try.f53, h2, h2_, h4, h4_, h4__]
      · simp [h2, h2_, h4, h4_, h4__]
    · replace hF := ite_f h4 hF
      have h4q : v9 = 0 := Classical.not_not.1 h4
      have h4_ := eqb_t h4q
      have h4__ := neb_f h4q
      refine AW.condF (by decide) (by first | (simp [h2, h2_, h4_, h4__, h4q]; done) | (simp [h2, h2_, h4_, h4__, h4q]; omega)) ?_
      refine AW.skip ?_
      refine hK39 _ _ _ ?_
      refine AW.seq fun K50 hK50 => ?_
      refine AW.seqR mixed [] [none, none, none, none, some (18, false), some (18, false), some (18, false), none, none, some (23, false), some (23, false), some (23, false), none, none, some (28, false), some (28, false), some (28, false), none, none, some (33, false), some (33, false), some (33, false), none, none, some (38, false), some (38, false), some (38, false), none] (by kernel_rfl) fun G51 R51 hG51 hR51 => ?_
      by_cases h5 : v4 < 1
      · replace hF := ite_t h5 hF
        have h5_ := h5
        try simp at h5_
        try simp [h2, h2_, h4_, h4__, h4q, h5, h5_]
        repeat' apply And.intro
        any_goals (first | exact hG51 _ (by kernel_rfl) | refine hR51 _ _ _ ?_ | omega | (unfold maxLen; omega) | (simp [h2, h2_, h4_, h4__, h4q, h5, h5_]; done) | (simp [h2, h2_, h4_, h4__, h4q, h5, h5_]; omega))
        refine AW.wk [(42, AV.bool true)] [] 1 (by simp [h2, h2_, h4_, h4__, h4q, h5, h5_]) (by simp [h2, h2_, h4_, h4__, h4q, h5, h5_]) (by simp) ?_
        refine AW.condT (by decide) (by simp [h2, h2_, h4_, h4__, h4q, h5, h5_]) ?_
        refine AW.seqR mixed [] [none] (by kernel_rfl) fun G52 R52 hG52 hR52 => ?_
        try simp [h2, h2_, h4_, h4__, h4q, h5, h5_]
        repeat' apply And.intro
        any_goals (first | exact hG52 _ (by kernel_rfl) | refine hR52 _ _ _ ?_ | omega | (unfold maxLen; omega) | (simp [h2, h2_, h4_, h4__, h4q, h5, h5_]; done) | (simp [h2, h2_, h4_, h4__, h4q, h5, h5_]; omega))
        refine AW.wk [(2, AV.int .i64 40)] [] 1 (by simp [h2, h2_, h4_, h4__, h4q, h5, h5_]) (by simp [h2, h2_, h4_, h4__, h4q, h5, h5_]) (by simp) ?_
        simp only [Option.some.injEq] at hF
        subst hF
        refine AW.ret (hQ _ _ _ ?_ (matchO_0 ?_)).1
        · simp [Try.f53, h2, h2_, h4_, h4__, h4q, h5, h5_]
        · simp [h2, h2_, h4_, h4__, h4q, h5, h5_]
      · replace hF := ite_f h5 hF
        have h5_ := h5
        try simp at h5_
        by_cases h6 : 9 < v4
        · replace hF := ite_t h6 hF
          have h6_ := h6
          try simp at h6_
          try simp [h2, h2_, h4_, h4__, h4q, h5, h5_, h6, h6_]
          repeat' apply And.intro
          any_goals (first | exact hG51 _ (by kernel_rfl) | refine hR51 _ _ _ ?_ | omega | (unfold maxLen; omega) | (simp [h2, h2_, h4_, h4__, h4q, h5, h5_, h6, h6_]; done) | (simp [h2, h2_, h4_, h4__, h4q, h5, h5_, h6, h6_]; omega))
          refine AW.wk [(42, AV.bool true)] [] 1 (by simp [h2, h2_, h4_, h4__, h4q, h5, h5_, h6, h6_]) (by simp [h2, h2_, h4_, h4__, h4q, h5, h5_, h6, h6_]) (by simp) ?_
          refine AW.condT (by decide) (by simp [h2, h2_, h4_, h4__, h4q, h5, h5_, h6, h6_]) ?_
          refine AW.seqR mixed [] [none] (by kernel_rfl) fun G53 R53 hG53 hR53 => ?_
          try simp [h2, h2_, h4_, h4__, h4q, h5, h5_, h6, h6_]
          repeat' apply And.intro
          any_goals (first | exact hG53 _ (by kernel_rfl) | refine hR53 _ _ _ ?_ | omega | (unfold maxLen; omega) | (simp [h2, h2_, h4_, h4__, h4q, h5, h5_, h6, h6_]; done) | (simp [h2, h2_, h4_, h4__, h4q, h5, h5_, h6, h6_]; omega))
          refine AW.wk [(2, AV.int .i64 40)] [] 1 (by simp [h2, h2_, h4_, h4__, h4q, h5, h5_, h6, h6_]) (by simp [h2, h2_, h4_, h4__, h4q, h5, h5_, h6, h6_]) (by simp) ?_
          simp only [Option.some.injEq] at hF
          subst hF
          refine AW.ret (hQ _ _ _ ?_ (matchO_0 ?_)).1
          · simp [Try.f53, h2, h2_, h4_, h4__, h4q, h5, h5_, h6, h6_]
          · simp [h2, h2_, h4_, h4__, h4q, h5, h5_, h6, h6_]
        · replace hF := ite_f h6 hF
          have h6_ := h6
          try simp at h6_
          by_cases h7 : v5 < 1
          · replace hF := ite_t h7 hF
            have h7_ := h7
            try simp at h7_
            try simp [h2, h2_, h4_, h4__, h4q, h5, h5_, h6, h6_, h7, h7_]
            repeat' apply And.intro
            any_goals (first | exact hG51 _ (by kernel_rfl) | refine hR51 _ _ _ ?_ | omega | (unfold maxLen; omega) | (simp [h2, h2_, h4_, h4__, h4q, h5, h5_, h6, h6_, h7, h7_]; done) | (simp [h2, h2_, h4_, h4__, h4q, h5, h5_, h6, h6_, h7, h7_]; omega))
            refine AW.wk [(42, AV.bool true)] [] 1 (by simp [h2, h2_, h4_, h4__, h4q, h5, h5_, h6, h6_, h7, h7_]) (by simp [h2, h2_, h4_, h4__, h4q, h5, h5_, h6, h6_, h7, h7_]) (by simp) ?_
            refine AW.condT (by decide) (by simp [h2, h2_, h4_, h4__, h4q, h5, h5_, h6, h6_, h7, h7_]) ?_
            refine AW.seqR mixed [] [none] (by kernel_rfl) fun G54 R54 hG54 hR54 => ?_
            try simp [h2, h2_, h4_, h4__, h4q, h5, h5_, h6, h6_, h7, h7_]
            repeat' apply And.intro
            any_goals (first | exact hG54 _ (by kernel_rfl) | refine hR54 _ _ _ ?_ | omega | (unfold maxLen; omega) | (simp [h2, h2_, h4_, h4__, h4q, h5, h5_, h6, h6_, h7, h7_]; done) | (simp [h2, h2_, h4_, h4__, h4q, h5, h5_, h6, h6_, h7, h7_]; omega))
            refine AW.wk [(2, AV.int .i64 40)] [] 1 (by simp [h2, h2_, h4_, h4__, h4q, h5, h5_, h6, h6_, h7, h7_]) (by simp [h2, h2_, h4_, h4__, h4q, h5, h5_, h6, h6_, h7, h7_]) (by simp) ?_
            simp only [Option.some.injEq] at hF
            subst hF
            refine AW.ret (hQ _ _ _ ?_ (matchO_0 ?_)).1
            · simp [Try.f53, h2, h2_, h4_, h4__, h4q, h5, h5_, h6, h6_, h7, h7_]
            · simp [h2, h2_, h4_, h4__, h4q, h5, h5_, h6, h6_, h7, h7_]
          · replace hF := ite_f h7 hF
            have h7_ := h7
            try simp at h7_
            by_cases h8 : 1000000 < v5
            · replace hF := ite_t h8 hF
              have h8_ := h8
              try simp at h8_
              try simp [h2, h2_, h4_, h4__, h4q, h5, h5_, h6, h6_, h7, h7_, h8, h8_]
              repeat' apply And.intro
              any_goals (first | exact hG51 _ (by kernel_rfl) | refine hR51 _ _ _ ?_ | omega | (unfold maxLen; omega) | (simp [h2, h2_, h4_, h4__, h4q, h5, h5_, h6, h6_, h7, h7_, h8, h8_]; done) | (simp [h2, h2_, h4_, h4__, h4q, h5, h5_, h6, h6_, h7, h7_, h8, h8_]; omega))
              refine AW.wk [(42, AV.bool true)] [] 1 (by simp [h2, h2_, h4_, h4__, h4q, h5, h5_, h6, h6_, h7, h7_, h8, h8_]) (by simp [h2, h2_, h4_, h4__, h4q, h5, h5_, h6, h6_, h7, h7_, h8, h8_]) (by simp) ?_
              refine AW.condT (by decide) (by simp [h2, h2_, h4_, h4__, h4q, h5, h5_, h6, h6_, h7, h7_, h8, h8_]) ?_
              refine AW.seqR mixed [] [none] (by kernel_rfl) fun G55 R55 hG55 hR55 => ?_
              try simp [h2, h2_, h4_, h4__, h4q, h5, h5_, h6, h6_, h7, h7_, h8, h8_]
              repeat' apply And.intro
              any_goals (first | exact hG55 _ (by kernel_rfl) | refine hR55 _ _ _ ?_ | omega | (unfold maxLen; omega) | (simp [h2, h2_, h4_, h4__, h4q, h5, h5_, h6, h6_, h7, h7_, h8, h8_]; done) | (simp [h2, h2_, h4_, h4__, h4q, h5, h5_, h6, h6_, h7, h7_, h8, h8_]; omega))
              refine AW.wk [(2, AV.int .i64 40)] [] 1 (by simp [h2, h2_, h4_, h4__, h4q, h5, h5_, h6, h6_, h7, h7_, h8, h8_]) (by simp [h2, h2_, h4_, h4__, h4q, h5, h5_, h6, h6_, h7, h7_, h8, h8_]) (by simp) ?_
              simp only [Option.some.injEq] at hF
              subst hF
              refine AW.ret (hQ _ _ _ ?_ (matchO_0 ?_)).1
              · simp [Try.f53, h2, h2_, h4_, h4__, h4q, h5, h5_, h6, h6_, h7, h7_, h8, h8_]
              · simp [h2, h2_, h4_, h4__, h4q, h5, h5_, h6, h6_, h7, h7_, h8, h8_]
            · replace hF := ite_f h8 hF
              have h8_ := h8
              try simp at h8_
              by_cases h9 : v6 < 0
              · replace hF := ite_t h9 hF
                have h9_ := h9
                try simp at h9_
                try simp [h2, h2_, h4_, h4__, h4q, h5, h5_, h6, h6_, h7, h7_, h8, h8_, h9, h9_]
                repeat' apply And.intro
                any_goals (first | exact hG51 _ (by kernel_rfl) | refine hR51 _ _ _ ?_ | omega | (unfold maxLen; omega) | (simp [h2, h2_, h4_, h4__, h4q, h5, h5_, h6, h6_, h7, h7_, h8, h8_, h9, h9_]; done) | (simp [h2, h2_, h4_, h4__, h4q, h5, h5_, h6, h6_, h7, h7_, h8, h8_, h9, h9_]; omega))
                refine AW.wk [(42, AV.bool true)] [] 1 (by simp [h2, h2_, h4_, h4__, h4q, h5, h5_, h6, h6_, h7, h7_, h8, h8_, h9, h9_]) (by simp [h2, h2_, h4_, h4__, h4q, h5, h5_, h6, h6_, h7, h7_, h8, h8_, h9, h9_]) (by simp) ?_
                refine AW.condT (by decide) (by simp [h2, h2_, h4_, h4__, h4q, h5, h5_, h6, h6_, h7, h7_, h8, h8_, h9, h9_]) ?_
                refine AW.seqR mixed [] [none] (by kernel_rfl) fun G56 R56 hG56 hR56 => ?_
                try simp [h2, h2_, h4_, h4__, h4q, h5, h5_, h6, h6_, h7, h7_, h8, h8_, h9, h9_]
                repeat' apply And.intro
                any_goals (first | exact hG56 _ (by kernel_rfl) | refine hR56 _ _ _ ?_ | omega | (unfold maxLen; omega) | (simp [h2, h2_, h4_, h4__, h4q, h5, h5_, h6, h6_, h7, h7_, h8, h8_, h9, h9_]; done) | (simp [h2, h2_, h4_, h4__, h4q, h5, h5_, h6, h6_, h7, h7_, h8, h8_, h9, h9_]; omega))
                refine AW.wk [(2, AV.int .i64 40)] [] 1 (by simp [h2, h2_, h4_, h4__, h4q, h5, h5_, h6, h6_, h7, h7_, h8, h8_, h9, h9_]) (by simp [h2, h2_, h4_, h4__, h4q, h5, h5_, h6, h6_, h7, h7_, h8, h8_, h9, h9_]) (by simp) ?_
                simp only [Option.some.injEq] at hF
                subst hF
                refine AW.ret (hQ _ _ _ ?_ (matchO_0 ?_)).1
                · simp [Try.f53, h2, h2_, h4_, h4__, h4q, h5, h5_, h6, h6_, h7, h7_, h8, h8_, h9, h9_]
                · simp [h2, h2_, h4_, h4__, h4q, h5, h5_, h6, h6_, h7, h7_, h8, h8_, h9, h9_]
              · replace hF := ite_f h9 hF
                have h9_ := h9
                try simp at h9_
                try simp [h2, h2_, h4_, h4__, h4q, h5, h5_, h6, h6_, h7, h7_, h8, h8_, h9, h9_]
                repeat' apply And.intro
                any_goals (first | exact hG51 _ (by kernel_rfl) | refine hR51 _ _ _ ?_ | omega | (unfold maxLen; omega) | (simp [h2, h2_, h4_, h4__, h4q, h5, h5_, h6, h6_, h7, h7_, h8, h8_, h9, h9_]; done) | (simp [h2, h2_, h4_, h4__, h4q, h5, h5_, h6, h6_, h7, h7_, h8, h8_, h9, h9_]; omega))
                refine AW.wk [(42, AV.bool (decide (64 < v6)))] [] 1 (by simp [h2, h2_, h4_, h4__, h4q, h5, h5_, h6, h6_, h7, h7_, h8, h8_, h9, h9_]) (by simp [h2, h2_, h4_, h4__, h4q, h5, h5_, h6, h6_, h7, h7_, h8, h8_, h9, h9_]) (by simp) ?_
                by_cases h10 : 64 < v6
                · replace hF := ite_t h10 hF
                  have h10_ := h10
                  try simp at h10_
                  refine AW.condT (by decide) (by first | (simp [h2, h2_, h4_, h4__, h4q, h5, h5_, h6, h6_, h7, h7_, h8, h8_, h9, h9_, h10, h10_]; done) | (simp [h2, h2_, h4_, h4__, h4q, h5, h5_, h6, h6_, h7, h7_, h8, h8_, h9, h9_, h10, h10_]; omega)) ?_
                  refine AW.seqR mixed [] [none] (by kernel_rfl) fun G57 R57 hG57 hR57 => ?_
                  try simp [h2, h2_, h4_, h4__, h4q, h5, h5_, h6, h6_, h7, h7_, h8, h8_, h9, h9_, h10, h10_]
                  repeat' apply And.intro
                  any_goals (first | exact hG57 _ (by kernel_rfl) | refine hR57 _ _ _ ?_ | omega | (unfold maxLen; omega) | (simp [h2, h2_, h4_, h4__, h4q, h5, h5_, h6, h6_, h7, h7_, h8, h8_, h9, h9_, h10, h10_]; done) | (simp [h2, h2_, h4_, h4__, h4q, h5, h5_, h6, h6_, h7, h7_, h8, h8_, h9, h9_, h10, h10_]; omega))
                  refine AW.wk [(2, AV.int .i64 40)] [] 1 (by simp [h2, h2_, h4_, h4__, h4q, h5, h5_, h6, h6_, h7, h7_, h8, h8_, h9, h9_, h10, h10_]) (by simp [h2, h2_, h4_, h4__, h4q, h5, h5_, h6, h6_, h7, h7_, h8, h8_, h9, h9_, h10, h10_]) (by simp) ?_
                  simp only [Option.some.injEq] at hF
                  subst hF
                  refine AW.ret (hQ _ _ _ ?_ (matchO_0 ?_)).1
                  · simp [Try.f53, h2, h2_, h4_, h4__, h4q, h5, h5_, h6, h6_, h7, h7_, h8, h8_, h9, h9_, h10, h10_]
                  · simp [h2, h2_, h4_, h4__, h4q, h5, h5_, h6, h6_, h7, h7_, h8, h8_, h9, h9_, h10, h10_]
                · replace hF := ite_f h10 hF
                  have h10_ := h10
                  try simp at h10_
                  refine AW.condF (by decide) (by first | (simp [h2, h2_, h4_, h4__, h4q, h5, h5_, h6, h6_, h7, h7_, h8, h8_, h9, h9_, h10, h10_]; done) | (simp [h2, h2_, h4_, h4__, h4q, h5, h5_, h6, h6_, h7, h7_, h8, h8_, h9, h9_, h10, h10_]; omega)) ?_
                  refine AW.skip ?_
                  refine hK50 _ _ _ ?_
                  refine AW.seqR mixed [] [none] (by kernel_rfl) fun G58 R58 hG58 hR58 => ?_
                  try simp [h2, h2_, h4_, h4__, h4q, h5, h5_, h6, h6_, h7, h7_, h8, h8_, h9, h9_, h10, h10_]
                  repeat' apply And.intro
                  any_goals (first | exact hG58 _ (by kernel_rfl) | refine hR58 _ _ _ ?_ | omega | (unfold maxLen; omega) | (simp [h2, h2_, h4_, h4__, h4q, h5, h5_, h6, h6_, h7, h7_, h8, h8_, h9, h9_, h10, h10_]; done) | (simp [h2, h2_, h4_, h4__, h4q, h5, h5_, h6, h6_, h7, h7_, h8, h8_, h9, h9_, h10, h10_]; omega))
                  refine AW.wk [(2, AV.int .i64 0)] [] 1 (by simp [h2, h2_, h4_, h4__, h4q, h5, h5_, h6, h6_, h7, h7_, h8, h8_, h9, h9_, h10, h10_]) (by simp [h2, h2_, h4_, h4__, h4q, h5, h5_, h6, h6_, h7, h7_, h8, h8_, h9, h9_, h10, h10_]) (by simp) ?_
                  simp only [Option.some.injEq] at hF
                  subst hF
                  refine AW.ret (hQ _ _ _ ?_ (matchO_0 ?_)).1
                  · simp [Try.f53, h2, h2_, h4_, h4__, h4q, h5, h5_, h6, h6_, h7, h7_, h8, h8_, h9, h9_, h10, h10_]
                  · simp [h2, h2_, h4_, h4__, h4q, h5, h5_, h6, h6_, h7, h7_, h8, h8_, h9, h9_, h10, h10_]
set_option maxHeartbeats 4000000 in
theorem w_law24_RosterRules (k : Nat) (v0 : (List Int)) (v1 : (List Int)) (v2 : (List Int)) (v3 : (List Int)) (v4 : Int) (v5 : Int) (v6 : Int) (v7 : Int) (v8 : Bool) (hF : law24_RosterRules k v0 v1 v2 v3 v4 v5 v6 v7 = some v8) :
    FCall Try.prog 7 [AV.lst false false (List.map (AV.int .i64) v0), AV.agg [AV.lst false false (List.map (AV.int .i64) v1), AV.lst false false (List.map (AV.int .i64) v2), AV.lst false false (List.map (AV.int .i64) v3), AV.int .i64 v4, AV.int .i64 v5, AV.int .i64 v6, AV.int .i64 v7]] [] (AV.bool v8) [] := by
  unfold law24_RosterRules at hF
  refine FCall.enter Try.func7 rfl (by simp) (by decide) (by simp) (by simp) (by simp) (by simp) (by simp) ?_
  intro c0 w0 Q h0 hQ
  refine AW.wk [(0, AV.lst false false (List.map (AV.int .i64) v0)), (1, AV.agg [AV.lst false false (List.map (AV.int .i64) v1), AV.lst false false (List.map (AV.int .i64) v2), AV.lst false false (List.map (AV.int .i64) v3), AV.int .i64 v4, AV.int .i64 v5, AV.int .i64 v6, AV.int .i64 v7])] [] 0 (by simp) (by simp) (by simp) ?_
  refine AW.seqR mixed [] [none, none] (by kernel_rfl) fun G14 R14 hG14 hR14 => ?_
  try simp
  repeat' apply And.intro
  any_goals (first | exact hG14 _ (by kernel_rfl) | refine hR14 _ _ _ ?_ | omega | (unfold maxLen; omega) | (simp; done) | (simp; omega))
  refine AW.wk [(0, AV.lst false false (List.map (AV.int .i64) v0)), (3, AV.ptr 0 0)] [(0, .cells [AV.lst false false (List.map (AV.int .i64) v1), AV.lst false false (List.map (AV.int .i64) v2), AV.lst false false (List.map (AV.int .i64) v3), AV.int .i64 v4, AV.int .i64 v5, AV.int .i64 v6, AV.int .i64 v7])] 1 (by simp) (by simp) (by simp) ?_
  refine AW.seq fun K18 hK18 => ?_
  refine AW.seqR mixed [] [none, none, none, none, some (12, false), some (12, false), some (12, false), some (12, false), some (12, false), some (12, false), some (12, false), some (12, false), some (12, false), some (12, false), some (12, false), some (12, false), some (12, false), some (12, false), none] (by kernel_rfl) fun G19 R19 hG19 hR19 => ?_
  try simp
  repeat' apply And.intro
  try any_goals (first | omega | (unfold maxLen; omega) | (simp; done))
  obtain ⟨v9, h1, hF⟩ := bnd1_elim hF
  refine aCall_l (w_mill_Light k _ _ h1) (by simp) [] [] [] rfl (.cons (.same (by simp)) .nil) (by simp) (by decide) (by simp) (by simp) (.inl rfl) (by simp) (by simp) ?_
  by_cases h2 : (!v9) = true
  · replace hF := ite_t h2 hF
    have h2_ := h2
    try simp at h2_
    try simp [h2, h2_]
    repeat' apply And.intro
    any_goals (first | exact hG19 _ (by kernel_rfl) | refine hR19 _ _ _ ?_ | omega | (unfold maxLen; omega) | (simp [h2, h2_]; done) | (simp [h2, h2_]; omega))
    refine AW.wk [(0, AV.lst false false (List.map (AV.int .i64) v0)), (3, AV.ptr 0 0), (27, AV.bool true)] [(0, .cells [AV.lst false false (List.map (AV.int .i64) v1), AV.lst false false (List.map (AV.int .i64) v2), AV.lst false false (List.map (AV.int .i64) v3), AV.int .i64 v4, AV.int .i64 v5, AV.int .i64 v6, AV.int .i64 v7])] 1 (by simp [h2, h2_]) (by simp [h2, h2_]) (by simp) ?_
    refine AW.condT (by decide) (by simp [h2, h2_]) ?_
    refine AW.seqR mixed [] [none, none] (by kernel_rfl) fun G20 R20 hG20 hR20 => ?_
    try simp [h2, h2_]
    repeat' apply And.intro
    try any_goals (first | omega | (unfold maxLen; omega) | (simp [h2, h2_]; done))
    obtain ⟨v10, h3, hF⟩ := bnd1_elim hF
    refine aCall_l (w_law24_awake k _ h3) (by simp) [] [] [] rfl .nil (by simp [h2, h2_]) (by decide) (by simp) (by simp) (.inl rfl) (by simp) (by simp) ?_
    try simp [h2, h2_]
    repeat' apply And.intro
    any_goals (first | exact hG20 _ (by kernel_rfl) | refine hR20 _ _ _ ?_ | omega | (unfold maxLen; omega) | (simp [h2, h2_]; done) | (simp [h2, h2_]; omega))
    refine AW.wk [(4, AV.bool v10)] [] 1 (by simp [h2, h2_]) (by simp [h2, h2_]) (by simp) ?_
    simp only [Option.some.injEq] at hF
    subst hF
    refine AW.ret (hQ _ _ _ ?_ (matchO_0 ?_)).1
    · simp [Try.f7, h2, h2_]
    · simp [h2, h2_]
  · replace hF := ite_f h2 hF
    have h2_ := h2
    try simp at h2_
    try simp [h2, h2_]
    repeat' apply And.intro
    any_goals (first | exact hG19 _ (by kernel_rfl) | refine hR19 _ _ _ ?_ | omega | (unfold maxLen; omega) | (simp [h2, h2_]; done) | (simp [h2, h2_]; omega))
    refine AW.wk [(0, AV.lst false false (List.map (AV.int .i64) v0)), (3, AV.ptr 0 0), (27, AV.bool (decide (300 < IntKind.wrap .i64 (IntKind.wrap .i64 ((v1.length : Int) + (v2.length : Int)) + (v3.length : Int)))))] [(0, .cells [AV.lst false false (List.map (AV.int .i64) v1), AV.lst false false (List.map (AV.int .i64) v2), AV.lst false false (List.map (AV.int .i64) v3), AV.int .i64 v4, AV.int .i64 v5, AV.int .i64 v6, AV.int .i64 v7])] 1 (by simp [h2, h2_]) (by simp [h2, h2_]) (by simp) ?_
    by_cases h4 : 300 < IntKind.wrap .i64 (IntKind.wrap .i64 ((v1.length : Int) + (v2.length : Int)) + (v3.length : Int))
    · replace hF := ite_t h4 hF
      have h4_ := h4
      try simp at h4_
      refine AW.condT (by decide) (by first | (simp [h2, h2_, h4, h4_]; done) | (simp [h2, h2_, h4, h4_]; omega)) ?_
      refine AW.seqR mixed [] [none, none] (by kernel_rfl) fun G21 R21 hG21 hR21 => ?_
      try simp [h2, h2_, h4, h4_]
      repeat' apply And.intro
      try any_goals (first | omega | (unfold maxLen; omega) | (simp [h2, h2_, h4, h4_]; done))
      obtain ⟨v11, h5, hF⟩ := bnd1_elim hF
      refine aCall_l (w_law24_awake k _ h5) (by simp) [] [] [] rfl .nil (by simp [h2, h2_, h4, h4_]) (by decide) (by simp) (by simp) (.inl rfl) (by simp) (by simp) ?_
      try simp [h2, h2_, h4, h4_]
      repeat' apply And.intro
      any_goals (first | exact hG21 _ (by kernel_rfl) | refine hR21 _ _ _ ?_ | omega | (unfold maxLen; omega) | (simp [h2, h2_, h4, h4_]; done) | (simp [h2, h2_, h4, h4_]; omega))
      refine AW.wk [(4, AV.bool v11)] [] 1 (by simp [h2, h2_, h4, h4_]) (by simp [h2, h2_, h4, h4_]) (by simp) ?_
      simp only [Option.some.injEq] at hF
      subst hF
      refine AW.ret (hQ _ _ _ ?_ (matchO_0 ?_)).1
      · simp [Try.f7, h2, h2_, h4, h4_]
      · simp [h2, h2_, h4, h4_]
    · replace hF := ite_f h4 hF
      have h4_ := h4
      try simp at h4_
      refine AW.condF (by decide) (by first | (simp [h2, h2_, h4, h4_]; done) | (simp [h2, h2_, h4, h4_]; omega)) ?_
      refine AW.skip ?_
      refine hK18 _ _ _ ?_
      refine AW.seqR mixed [] [none, none, none] (by kernel_rfl) fun G22 R22 hG22 hR22 => ?_
      try simp [h2, h2_, h4, h4_]
      repeat' apply And.intro
      try any_goals (first | omega | (unfold maxLen; omega) | (simp [h2, h2_, h4, h4_]; done))
      obtain ⟨v12, v13, h6, hF⟩ := bnd2_elim hF
      refine aCall_l (w_mill_Roll k _ _ _ h6) (by simp) [] [] [] rfl (.cons (.same (by simp [h2, h2_, h4, h4_])) .nil) (by simp [h2, h2_, h4, h4_]) (by decide) (by simp) (by simp) (.inl rfl) (by simp) (by simp) ?_
      try simp [h2, h2_, h4, h4_]
      repeat' apply And.intro
      any_goals (first | exact hG22 _ (by kernel_rfl) | refine hR22 _ _ _ ?_ | omega | (unfold maxLen; omega) | (simp [h2, h2_, h4, h4_]; done) | (simp [h2, h2_, h4, h4_]; omega))
      refine AW.wk [(3, AV.ptr 0 0), (5, AV.ptr 1 0)] [(0, .cells [AV.lst false false (List.map (AV.int .i64) v1), AV.lst false false (List.map (AV.int .i64) v2), AV.lst false false (List.map (AV.int .i64) v3), AV.int .i64 v4, AV.int .i64 v5, AV.int .i64 v6, AV.int .i64 v7]), (1, .cells [AV.lst false false (List.map (AV.int .i64) v12), AV.int .i64 v13])] 2 (by simp [h2, h2_, h4, h4_]) (by simp [h2, h2_, h4, h4_]) (by simp) ?_
      refine AW.seqR mixed [] [none, none, none, none] (by kernel_rfl) fun G23 R23 hG23 hR23 => ?_
      try simp [h2, h2_, h4, h4_]
      repeat' apply And.intro
      try any_goals (first | omega | (unfold maxLen; omega) | (simp [h2, h2_, h4, h4_]; done))
      obtain ⟨v14, v15, v16, v17, v18, v19, v20, v21, h7, hF⟩ := bnd8_elim hF
      refine aCall_l (w_mill_Rules k _ _ _ _ _ _ _ _ _ _ h7) (by simp) [1] [] [1] rfl (.cons (.same (by simp [h2, h2_, h4, h4_])) .nil) (by simp [h2, h2_, h4, h4_]) (by decide) (by simp) (by simp) (.inl rfl) (by simp) (by simp) ?_
      try simp [h2, h2_, h4, h4_]
      repeat' apply And.intro
      any_goals (first | exact hG23 _ (by kernel_rfl) | refine hR23 _ _ _ ?_ | omega | (unfold maxLen; omega) | (simp [h2, h2_, h4, h4_]; done) | (simp [h2, h2_, h4, h4_]; omega))
      refine AW.wk [(3, AV.ptr 0 0), (5, AV.ptr 1 0), (6, AV.ptr 3 0)] [(0, .cells [AV.lst false false (List.map (AV.int .i64) v1), AV.lst false false (List.map (AV.int .i64) v2), AV.lst false false (List.map (AV.int .i64) v3), AV.int .i64 v4, AV.int .i64 v5, AV.int .i64 v6, AV.int .i64 v7]), (1, .cells [AV.lst false false (List.map (AV.int .i64) v12), AV.int .i64 v21]), (2, .cells (List.map (AV.int .i64) v16)), (3, .cells [AV.lst false false (List.map (AV.int .i64) v14), AV.lst false false (List.map (AV.int .i64) v15), AV.slc 2 0 1 v16.length false, AV.int .i64 v17, AV.int .i64 v18, AV.int .i64 v19, AV.int .i64 v20])] 4 (by simp [h2, h2_, h4, h4_]) (by simp [h2, h2_, h4, h4_]) (by simp) ?_
      refine AW.frz 2 (o := .cells (List.map (AV.int .i64) v16)) (by simp [h2, h2_, h4, h4_]) rfl [] [(3, .cells [AV.lst false false (List.map (AV.int .i64) v14), AV.lst false false (List.map (AV.int .i64) v15), AV.lst false false (List.map (AV.int .i64) v16), AV.int .i64 v17, AV.int .i64 v18, AV.int .i64 v19, AV.int .i64 v20])] trivial ⟨⟨by simp, AObj.cells [AV.lst false false (List.map (AV.int .i64) v14), AV.lst false false (List.map (AV.int .i64) v15), AV.slc 2 0 1 v16.length false, AV.int .i64 v17, AV.int .i64 v18, AV.int .i64 v19, AV.int .i64 v20], by simp [h2, h2_, h4, h4_], (.mk (.cons (.same _) (.cons (.same _) (.cons (.l (by simp) (by simp) (by simp) (by simp)) (.cons (.same _) (.cons (.same _) (.cons (.same _) (.cons (.same _) .nil))))))))⟩, trivial⟩ ?_
      refine AW.wk [(3, AV.ptr 0 0), (5, AV.ptr 1 0), (6, AV.ptr 3 0)] [(0, .cells [AV.lst false false (List.map (AV.int .i64) v1), AV.lst false false (List.map (AV.int .i64) v2), AV.lst false false (List.map (AV.int .i64) v3), AV.int .i64 v4, AV.int .i64 v5, AV.int .i64 v6, AV.int .i64 v7]), (1, .cells [AV.lst false false (List.map (AV.int .i64) v12), AV.int .i64 v21]), (3, .cells [AV.lst false false (List.map (AV.int .i64) v14), AV.lst false false (List.map (AV.int .i64) v15), AV.lst false false (List.map (AV.int .i64) v16), AV.int .i64 v17, AV.int .i64 v18, AV.int .i64 v19, AV.int .i64 v20])] 4 (by simp [h2, h2_, h4, h4_]) (by simp [h2, h2_, h4, h4_]) (by simp) ?_
      refine AW.seqR mixed [] [none, none, none, none, none] (by kernel_rfl) fun G24 R24 hG24 hR24 => ?_
      try simp [h2, h2_, h4, h4_]
      repeat' apply And.intro
      try any_goals (first | omega | (unfold maxLen; omega) | (simp [h2, h2_, h4, h4_]; done))
      obtain ⟨v22, v23, v24, v25, v26, v27, v28, v29, h8, hF⟩ := bnd8_elim hF
      refine aCall_l (w_mill_Odd k _ _ _ _ _ _ _ _ _ _ _ _ _ _ _ _ _ h8) (by simp) [1] [] [1] rfl (.cons (.same (by simp [h2, h2_, h4, h4_])) (.cons (.same (by simp [h2, h2_, h4, h4_])) .nil)) (by simp [h2, h2_, h4, h4_]) (by decide) (by simp) (by simp) (.inl rfl) (by simp) (by simp) ?_
      try simp [h2, h2_, h4, h4_]
      repeat' apply And.intro
      any_goals (first | exact hG24 _ (by kernel_rfl) | refine hR24 _ _ _ ?_ | omega | (unfold maxLen; omega) | (simp [h2, h2_, h4, h4_]; done) | (simp [h2, h2_, h4, h4_]; omega))
      refine AW.wk [(3, AV.ptr 0 0), (5, AV.ptr 1 0), (6, AV.ptr 3 0), (7, AV.ptr 4 0)] [(0, .cells [AV.lst false false (List.map (AV.int .i64) v1), AV.lst false false (List.map (AV.int .i64) v2), AV.lst false false (List.map (AV.int .i64) v3), AV.int .i64 v4, AV.int .i64 v5, AV.int .i64 v6, AV.int .i64 v7]), (1, .cells [AV.lst false false (List.map (AV.int .i64) v12), AV.int .i64 v29]), (3, .cells [AV.lst false false (List.map (AV.int .i64) v14), AV.lst false false (List.map (AV.int .i64) v15), AV.lst false false (List.map (AV.int .i64) v16), AV.int .i64 v17, AV.int .i64 v18, AV.int .i64 v19, AV.int .i64 v20]), (4, .cells [AV.lst false false (List.map (AV.int .i64) v22), AV.lst false false (List.map (AV.int .i64) v23), AV.lst false false (List.map (AV.int .i64) v24), AV.int .i64 v25, AV.int .i64 v26, AV.int .i64 v27, AV.int .i64 v28])] 5 (by simp [h2, h2_, h4, h4_]) (by simp [h2, h2_, h4, h4_]) (by simp) ?_
      refine AW.seqR mixed [] [none, none, none, none, none] (by kernel_rfl) fun G25 R25 hG25 hR25 => ?_
      try simp [h2, h2_, h4, h4_]
      repeat' apply And.intro
      try any_goals (first | omega | (unfold maxLen; omega) | (simp [h2, h2_, h4, h4_]; done))
      obtain ⟨v30, v31, v32, v33, v34, v35, v36, v37, h9, hF⟩ := bnd8_elim hF
      refine aCall_l (w_mill_Odd k _ _ _ _ _ _ _ _ _ _ _ _ _ _ _ _ _ h9) (by simp) [1] [] [1] rfl (.cons (.same (by simp [h2, h2_, h4, h4_])) (.cons (.same (by simp [h2, h2_, h4, h4_])) .nil)) (by simp [h2, h2_, h4, h4_]) (by decide) (by simp) (by simp) (.inl rfl) (by simp) (by simp) ?_
      try simp [h2, h2_, h4, h4_]
      repeat' apply And.intro
      any_goals (first | exact hG25 _ (by kernel_rfl) | refine hR25 _ _ _ ?_ | omega | (unfold maxLen; omega) | (simp [h2, h2_, h4, h4_]; done) | (simp [h2, h2_, h4, h4_]; omega))
      refine AW.wk [(3, AV.ptr 0 0), (6, AV.ptr 3 0), (7, AV.ptr 4 0), (8, AV.ptr 5 0)] [(0, .cells [AV.lst false false (List.map (AV.int .i64) v1), AV.lst false false (List.map (AV.int .i64) v2), AV.lst false false (List.map (AV.int .i64) v3), AV.int .i64 v4, AV.int .i64 v5, AV.int .i64 v6, AV.int .i64 v7]), (3, .cells [AV.lst false false (List.map (AV.int .i64) v14), AV.lst false false (List.map (AV.int .i64) v15), AV.lst false false (List.map (AV.int .i64) v16), AV.int .i64 v17, AV.int .i64 v18, AV.int .i64 v19, AV.int .i64 v20]), (4, .cells [AV.lst false false (List.map (AV.int .i64) v22), AV.lst false false (List.map (AV.int .i64) v23), AV.lst false false (List.map (AV.int .i64) v24), AV.int .i64 v25, AV.int .i64 v26, AV.int .i64 v27, AV.int .i64 v28]), (5, .cells [AV.lst false false (List.map (AV.int .i64) v30), AV.lst false false (List.map (AV.int .i64) v31), AV.lst false false (List.map (AV.int .i64) v32), AV.int .i64 v33, AV.int .i64 v34, AV.int .i64 v35, AV.int .i64 v36])] 6 (by simp [h2, h2_, h4, h4_]) (by simp [h2, h2_, h4, h4_]) (by simp) ?_
      refine AW.seqR mixed [] [none, none, none, none, some (42, true), some (42, true), some (42, true), some (42, true), some (42, true), none, none, some (49, true), some (49, true), some (49, true), some (49, true), some (49, true), none, none, some (56, true), some (56, true), some (56, true), some (56, true), some (56, true), none, none, some (63, true), none, none] (by kernel_rfl) fun G26 R26 hG26 hR26 => ?_
      try simp [h2, h2_, h4, h4_]
      repeat' apply And.intro
      try any_goals (first | omega | (unfold maxLen; omega) | (simp [h2, h2_, h4, h4_]; done))
      obtain ⟨v38, h10, hF⟩ := bnd1_elim hF
      refine aCall_l (w_roster_Check k _ _ _ _ _ _ _ _ h10) (by simp) [] [] [] rfl (.cons (.same (by simp [h2, h2_, h4, h4_])) .nil) (by simp [h2, h2_, h4, h4_]) (by decide) (by simp) (by simp) (.inl rfl) (by simp) (by simp) ?_
      by_cases h11 : v38 = 0
      · replace hF := ite_t h11 hF
        have h11q : v38 = 0 := h11
        have h11_ := eqb_t h11q
        have h11__ := neb_f h11q
        try simp [h2, h2_, h4, h4_, h11_, h11__, h11q]
        repeat' apply And.intro
        try any_goals (first | omega | (unfold maxLen; omega) | (simp [h2, h2_, h4, h4_, h11_, h11__, h11q]; done))
        obtain ⟨v39, h12, hF⟩ := bnd1_elim hF
        refine aCall_l (w_roster_Check k _ _ _ _ _ _ _ _ h12) (by simp) [] [] [] rfl (.cons (.same (by simp [h2, h2_, h4, h4_, h11_, h11__, h11q])) .nil) (by simp [h2, h2_, h4, h4_, h11_, h11__, h11q]) (by decide) (by simp) (by simp) (.inl rfl) (by simp) (by simp) ?_
        try simp [h2, h2_, h4, h4_, h11_, h11__, h11q]
        repeat' apply And.intro
        try any_goals (first | omega | (unfold maxLen; omega) | (simp [h2, h2_, h4, h4_, h11_, h11__, h11q]; done))
        obtain ⟨v40, h13, hF⟩ := bnd1_elim hF
        refine aCall_l (w_ref24_Check k _ _ _ _ _ _ _ _ h13) (by simp) [] [] [] rfl (.cons (.same (by simp [h2, h2_, h4, h4_, h11_, h11__, h11q])) .nil) (by simp [h2, h2_, h4, h4_, h11_, h11__, h11q]) (by decide) (by simp) (by simp) (.inl rfl) (by simp) (by simp) ?_
        by_cases h14 : v39 = v40
        · replace hF := ite_t h14 hF
          have h14q : v39 = v40 := h14
          have h14_ := eqb_t h14q
          have h14__ := neb_f h14q
          try simp [h2, h2_, h4, h4_, h11_, h11__, h11q, h14_, h14__]
          repeat' apply And.intro
          try any_goals (first | omega | (unfold maxLen; omega) | (simp [h2, h2_, h4, h4_, h11_, h11__, h11q, h14_, h14__]; done))
          obtain ⟨v41, h15, hF⟩ := bnd1_elim hF
          refine aCall_l (w_roster_Check k _ _ _ _ _ _ _ _ h15) (by simp) [] [] [] rfl (.cons (.same (by simp [h2, h2_, h4, h4_, h11_, h11__, h11q, h14_, h14__])) .nil) (by simp [h2, h2_, h4, h4_, h11_, h11__, h11q, h14_, h14__]) (by decide) (by simp) (by simp) (.inl rfl) (by simp) (by simp) ?_
          try simp [h2, h2_, h4, h4_, h11_, h11__, h11q, h14_, h14__]
          repeat' apply And.intro
          try any_goals (first | omega | (unfold maxLen; omega) | (simp [h2, h2_, h4, h4_, h11_, h11__, h11q, h14_, h14__]; done))
          obtain ⟨v42, h16, hF⟩ := bnd1_elim hF
          refine aCall_l (w_ref24_Check k _ _ _ _ _ _ _ _ h16) (by simp) [] [] [] rfl (.cons (.same (by simp [h2, h2_, h4, h4_, h11_, h11__, h11q, h14_, h14__])) .nil) (by simp [h2, h2_, h4, h4_, h11_, h11__, h11q, h14_, h14__]) (by decide) (by simp) (by simp) (.inl rfl) (by simp) (by simp) ?_
          by_cases h17 : v41 = v42
          · replace hF := ite_t h17 hF
            have h17q : v41 = v42 := h17
            have h17_ := eqb_t h17q
            have h17__ := neb_f h17q
            try simp [h2, h2_, h4, h4_, h11_, h11__, h11q, h14_, h14__, h17_, h17__]
            repeat' apply And.intro
            try any_goals (first | omega | (unfold maxLen; omega) | (simp [h2, h2_, h4, h4_, h11_, h11__, h11q, h14_, h14__, h17_, h17__]; done))
            obtain ⟨v43, h18, hF⟩ := bnd1_elim hF
            refine aCall_l (w_roster_Check k _ _ _ _ _ _ _ _ h18) (by simp) [] [] [] rfl (.cons (.same (by simp [h2, h2_, h4, h4_, h11_, h11__, h11q, h14_, h14__, h17_, h17__])) .nil) (by simp [h2, h2_, h4, h4_, h11_, h11__, h11q, h14_, h14__, h17_, h17__]) (by decide) (by simp) (by simp) (.inl rfl) (by simp) (by simp) ?_
            try simp [h2, h2_, h4, h4_, h11_, h11__, h11q, h14_, h14__, h17_, h17__]
            repeat' apply And.intro
            try any_goals (first | omega | (unfold maxLen; omega) | (simp [h2, h2_, h4, h4_, h11_, h11__, h11q, h14_, h14__, h17_, h17__]; done))
            obtain ⟨v44, h19, hF⟩ := bnd1_elim hF
            refine aCall_l (w_ref24_Check k _ _ _ _ _ _ _ _ h19) (by simp) [] [] [] rfl (.cons (.same (by simp [h2, h2_, h4, h4_, h11_, h11__, h11q, h14_, h14__, h17_, h17__])) .nil) (by simp [h2, h2_, h4, h4_, h11_, h11__, h11q, h14_, h14__, h17_, h17__]) (by decide) (by simp) (by simp) (.inl rfl) (by simp) (by simp) ?_
            by_cases h20 : v43 = v44
            · replace hF := ite_t h20 hF
              have h20q : v43 = v44 := h20
              have h20_ := eqb_t h20q
              have h20__ := neb_f h20q
              try simp [h2, h2_, h4, h4_, h11_, h11__, h11q, h14_, h14__, h17_, h17__, h20_, h20__]
              repeat' apply And.intro
              try any_goals (first | omega | (unfold maxLen; omega) | (simp [h2, h2_, h4, h4_, h11_, h11__, h11q, h14_, h14__, h17_, h17__, h20_, h20__]; done))
              obtain ⟨v45, h21, hF⟩ := bnd1_elim hF
              refine aCall_l (w_law24_awake k _ h21) (by simp) [] [] [] rfl .nil (by simp [h2, h2_, h4, h4_, h11_, h11__, h11q, h14_, h14__, h17_, h17__, h20_, h20__]) (by decide) (by simp) (by simp) (.inl rfl) (by simp) (by simp) ?_
              try simp [h2, h2_, h4, h4_, h11_, h11__, h11q, h14_, h14__, h17_, h17__, h20_, h20__]
              repeat' apply And.intro
              any_goals (first | exact hG26 _ (by kernel_rfl) | refine hR26 _ _ _ ?_ | omega | (unfold maxLen; omega) | (simp [h2, h2_, h4, h4_, h11_, h11__, h11q, h14_, h14__, h17_, h17__, h20_, h20__]; done) | (simp [h2, h2_, h4, h4_, h11_, h11__, h11q, h14_, h14__, h17_, h17__, h20_, h20__]; omega))
              refine AW.wk [(4, AV.bool v45)] [] 6 (by simp [h2, h2_, h4, h4_, h11_, h11__, h11q, h14_, h14__, h17_, h17__, h20_, h20__]) (by simp [h2, h2_, h4, h4_, h11_, h11__, h11q, h14_, h14__, h17_, h17__, h20_, h20__]) (by simp) ?_
              simp only [Option.some.injEq] at hF
              subst hF
              refine AW.ret (hQ _ _ _ ?_ (matchO_0 ?_)).1
              · simp [Try.f7, h2, h2_, h4, h4_, h11_, h11__, h11q, h14_, h14__, h17_, h17__, h20_, h20__]
              · simp [h2, h2_, h4, h4_, h11_, h11__, h11q, h14_, h14__, h17_, h17__, h20_, h20__]
            · replace hF := ite_f h20 hF
              have h20_ := eqb_f h20
              have h20__ := neb_t h20
              try simp [h2, h2_, h4, h4_, h11_, h11__, h11q, h14_, h14__, h17_, h17__, h20, h20_, h20__]
              repeat' apply And.intro
              any_goals (first | exact hG26 _ (by kernel_rfl) | refine hR26 _ _ _ ?_ | omega | (unfold maxLen; omega) | (simp [h2, h2_, h4, h4_, h11_, h11__, h11q, h14_, h14__, h17_, h17__, h20, h20_, h20__]; done) | (simp [h2, h2_, h4, h4_, h11_, h11__, h11q, h14_, h14__, h17_, h17__, h20, h20_, h20__]; omega))
              refine AW.wk [(4, AV.bool false)] [] 6 (by simp [h2, h2_, h4, h4_, h11_, h11__, h11q, h14_, h14__, h17_, h17__, h20, h20_, h20__]) (by simp [h2, h2_, h4, h4_, h11_, h11__, h11q, h14_, h14__, h17_, h17__, h20, h20_, h20__]) (by simp) ?_
              simp only [Option.some.injEq] at hF
              subst hF
              refine AW.ret (hQ _ _ _ ?_ (matchO_0 ?_)).1
              · simp [Try.f7, h2, h2_, h4, h4_, h11_, h11__, h11q, h14_, h14__, h17_, h17__, h20, h20_, h20__]
              · simp [h2, h2_, h4, h4_, h11_, h11__, h11q, h14_, h14__, h17_, h17__, h20, h20_, h20__]
          · replace hF := ite_f h17 hF
            have h17_ := eqb_f h17
            have h17__ := neb_t h17
            try simp [h2, h2_, h4, h4_, h11_, h11__, h11q, h14_, h14__, h17, h17_, h17__]
            repeat' apply And.intro
            any_goals (first | exact hG26 _ (by kernel_rfl) | refine hR26 _ _ _ ?_ | omega | (unfold maxLen; omega) | (simp [h2, h2_, h4, h4_, h11_, h11__, h11q, h14_, h14__, h17, h17_, h17__]; done) | (simp [h2, h2_, h4, h4_, h11_, h11__, h11q, h14_, h14__, h17, h17_, h17__]; omega))
            refine AW.wk [(4, AV.bool false)] [] 6 (by simp [h2, h2_, h4, h4_, h11_, h11__, h11q, h14_, h14__, h17, h17_, h17__]) (by simp [h2, h2_, h4, h4_, h11_, h11__, h11q, h14_, h14__, h17, h17_, h17__]) (by simp) ?_
            simp only [Option.some.injEq] at hF
            subst hF
            refine AW.ret (hQ _ _ _ ?_ (matchO_0 ?_)).1
            · simp [Try.f7, h2, h2_, h4, h4_, h11_, h11__, h11q, h14_, h14__, h17, h17_, h17__]
            · simp [h2, h2_, h4, h4_, h11_, h11__, h11q, h14_, h14__, h17, h17_, h17__]
        · replace hF := ite_f h14 hF
          have h14_ := eqb_f h14
          have h14__ := neb_t h14
          try simp [h2, h2_, h4, h4_, h11_, h11__, h11q, h14, h14_, h14__]
          repeat' apply And.intro
          any_goals (first | exact hG26 _ (by kernel_rfl) | refine hR26 _ _ _ ?_ | omega | (unfold maxLen; omega) | (simp [h2, h2_, h4, h4_, h11_, h11__, h11q, h14, h14_, h14__]; done) | (simp [h2, h2_, h4, h4_, h11_, h11__, h11q, h14, h14_, h14__]; omega))
          refine AW.wk [(4, AV.bool false)] [] 6 (by simp [h2, h2_, h4, h4_, h11_, h11__, h11q, h14, h14_, h14__]) (by simp [h2, h2_, h4, h4_, h11_, h11__, h11q, h14, h14_, h14__]) (by simp) ?_
          simp only [Option.some.injEq] at hF
          subst hF
          refine AW.ret (hQ _ _ _ ?_ (matchO_0 ?_)).1
          · simp [Try.f7, h2, h2_, h4, h4_, h11_, h11__, h11q, h14, h14_, h14__]
          · simp [h2, h2_, h4, h4_, h11_, h11__, h11q, h14, h14_, h14__]
      · replace hF := ite_f h11 hF
        have h11_ := eqb_f h11
        have h11__ := neb_t h11
        try simp [h2, h2_, h4, h4_, h11, h11_, h11__]
        repeat' apply And.intro
        any_goals (first | exact hG26 _ (by kernel_rfl) | refine hR26 _ _ _ ?_ | omega | (unfold maxLen; omega) | (simp [h2, h2_, h4, h4_, h11, h11_, h11__]; done) | (simp [h2, h2_, h4, h4_, h11, h11_, h11__]; omega))
        refine AW.wk [(4, AV.bool false)] [] 6 (by simp [h2, h2_, h4, h4_, h11, h11_, h11__]) (by simp [h2, h2_, h4, h4_, h11, h11_, h11__]) (by simp) ?_
        simp only [Option.some.injEq] at hF
        subst hF
        refine AW.ret (hQ _ _ _ ?_ (matchO_0 ?_)).1
        · simp [Try.f7, h2, h2_, h4, h4_, h11, h11_, h11__]
        · simp [h2, h2_, h4, h4_, h11, h11_, h11__]
end Go.TF
