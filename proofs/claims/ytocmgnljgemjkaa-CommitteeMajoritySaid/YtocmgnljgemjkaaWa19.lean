/- Walks: the Go text computes the Lean functions (printed by a program of our own). -/
import Derived.Test.YtocmgnljgemjkaaPu
import Derived.Test.YtocmgnljgemjkaaAbsT
import Derived.Test.YtocmgnljgemjkaaWa0
import Derived.Test.YtocmgnljgemjkaaWa8
set_option linter.unusedVariables false
set_option linter.unusedSimpArgs false
set_option maxRecDepth 100000
namespace Go.TF
open Go Go.Abs Go.Proofs Go.Proofs.YtocmgnljgemjkaaT
set_option maxHeartbeats 4000000 in
theorem w_ref26_Draw (k : Nat) (v0 : (List Int)) (v1 : (List Int)) (v2 : Int) (v3 : (List Int)) (v4 : Int) (hF : ref26_Draw k v0 v1 v2 = some (v3, v4)) :
    FCall Try.prog 57 [AV.lst false false (List.map (AV.int .i64) v0), AV.lst false false (List.map (AV.int .i64) v1), AV.int .i64 v2] [] (AV.tup [AV.slc 0 0 1 v3.length false, AV.int .i64 v4]) [some (.grow (List.map (AV.int .i64) v3))] := by
  unfold ref26_Draw at hF
  refine FCall.enter Try.func57 rfl (by simp) (by decide) (by simp) (by simp) (by simp) (by simp) (by simp) ?_
  intro c0 w0 Q h0 hQ
  refine AW.wk [(0, AV.lst false false (List.map (AV.int .i64) v0)), (1, AV.lst false false (List.map (AV.int .i64) v1)), (2, AV.int .i64 v2)] [] 0 (by simp) (by simp) (by simp) ?_
  refine AW.seqR mixed [] [none, none] (by kernel_rfl) fun G151 R151 hG151 hR151 => ?_
  try simp
  repeat' apply And.intro
  any_goals (first | exact hG151 _ (by kernel_rfl) | refine hR151 _ _ _ ?_ | omega | (unfold maxLen; omega) | (simp; done) | (simp; omega))
  refine AW.wk [(0, AV.lst false false (List.map (AV.int .i64) v0)), (1, AV.lst false false (List.map (AV.int .i64) v1)), (2, AV.int .i64 v2)] [] 0 (by simp) (by simp) (by simp) ?_
  refine AW.seq fun K154 hK154 => ?_
  refine AW.seqR mixed [] [none, none, none] (by kernel_rfl) fun G155 R155 hG155 hR155 => ?_
  try simp
  repeat' apply And.intro
  try any_goals (first | omega | (unfold maxLen; omega) | (simp; done))
  obtain ⟨v5, h1, hF⟩ := bnd1_elim hF
  refine aCall_l (w_ref24_Valid k _ _ h1) (by simp) [] [] [] rfl (.cons (.same (by simp)) .nil) (by simp) (by decide) (by simp) (by simp) (.inl rfl) (by simp) (by simp) ?_
  try simp
  repeat' apply And.intro
  any_goals (first | exact hG155 _ (by kernel_rfl) | refine hR155 _ _ _ ?_ | omega | (unfold maxLen; omega) | (simp; done) | (simp; omega))
  refine AW.wk [(0, AV.lst false false (List.map (AV.int .i64) v0)), (1, AV.lst false false (List.map (AV.int .i64) v1)), (2, AV.int .i64 v2), (15, AV.bool (!v5))] [] 0 (by simp) (by simp) (by simp) ?_
  by_cases h2 : (!v5) = true
  · replace hF := ite_t h2 hF
    have h2_ := h2
    try simp at h2_
    refine AW.condT (by decide) (by first | (simp [h2, h2_]; done) | (simp [h2, h2_]; omega)) ?_
    refine AW.seqR mixed [] [none, none] (by kernel_rfl) fun G156 R156 hG156 hR156 => ?_
    try simp [h2, h2_]
    repeat' apply And.intro
    any_goals (first | exact hG156 _ (by kernel_rfl) | refine hR156 _ _ _ ?_ | omega | (unfold maxLen; omega) | (simp [h2, h2_]; done) | (simp [h2, h2_]; omega))
    refine AW.wk [(6, AV.lst true true (List.map (AV.int .i64) ([] : List Int))), (7, AV.int .i64 43)] [] 0 (by simp [h2, h2_]) (by simp [h2, h2_]) (by simp) ?_
    refine AW.own' 6 1 true (by simp [h2, h2_]) (by decide) ?_
    simp only [Option.some.injEq, Prod.mk.injEq] at hF
    obtain ⟨e0, e1⟩ := hF
    subst e0 e1
    refine AW.ret (hQ _ _ _ ?_ (matchO_0 ?_)).1
    · simp [Try.f57, h2, h2_]
    · simp [h2, h2_]
  · replace hF := ite_f h2 hF
    have h2_ := h2
    try simp at h2_
    refine AW.condF (by decide) (by first | (simp [h2, h2_]; done) | (simp [h2, h2_]; omega)) ?_
    refine AW.skip ?_
    refine hK154 _ _ _ ?_
    refine AW.seqR mixed [] [none, none, none, none, none] (by kernel_rfl) fun G157 R157 hG157 hR157 => ?_
    obtain ⟨v6, h3, hF⟩ := let1_elim hF
    have h3_ := h3
    try simp at h3_
    try simp [h2, h2_, h3, h3_]
    repeat' apply And.intro
    any_goals (first | exact hG157 _ (by kernel_rfl) | refine hR157 _ _ _ ?_ | omega | (unfold maxLen; omega) | (simp [h2, h2_, h3, h3_]; done) | (simp [h2, h2_, h3, h3_]; omega))
    refine AW.wk [(0, AV.lst false false (List.map (AV.int .i64) v0)), (1, AV.lst false false (List.map (AV.int .i64) v1)), (2, AV.int .i64 v2), (8, AV.int .i64 v6)] [] 0 (by simp [h2, h2_, h3, h3_]) (by simp [h2, h2_, h3, h3_]) (by simp) ?_
    refine AW.seq fun K162 hK162 => ?_
    refine AW.seqR mixed [] [none, none, none, some (22, false), some (22, false), none, none, some (26, false), some (26, false), some (26, false), some (26, false), none] (by kernel_rfl) fun G163 R163 hG163 hR163 => ?_
    by_cases h4 : v2 < 1
    · replace hF := ite_t h4 hF
      have h4_ := h4
      try simp at h4_
      try simp [h2, h2_, h3, h3_, h4, h4_]
      repeat' apply And.intro
      any_goals (first | exact hG163 _ (by kernel_rfl) | refine hR163 _ _ _ ?_ | omega | (unfold maxLen; omega) | (simp [h2, h2_, h3, h3_, h4, h4_]; done) | (simp [h2, h2_, h3, h3_, h4, h4_]; omega))
      refine AW.wk [(0, AV.lst false false (List.map (AV.int .i64) v0)), (1, AV.lst false false (List.map (AV.int .i64) v1)), (8, AV.int .i64 v6), (31, AV.bool true)] [] 0 (by simp [h2, h2_, h3, h3_, h4, h4_]) (by simp [h2, h2_, h3, h3_, h4, h4_]) (by simp) ?_
      refine AW.condT (by decide) (by simp [h2, h2_, h3, h3_, h4, h4_]) ?_
      refine AW.seqR mixed [] [none, none] (by kernel_rfl) fun G164 R164 hG164 hR164 => ?_
      try simp [h2, h2_, h3, h3_, h4, h4_]
      repeat' apply And.intro
      any_goals (first | exact hG164 _ (by kernel_rfl) | refine hR164 _ _ _ ?_ | omega | (unfold maxLen; omega) | (simp [h2, h2_, h3, h3_, h4, h4_]; done) | (simp [h2, h2_, h3, h3_, h4, h4_]; omega))
      refine AW.wk [(6, AV.lst true true (List.map (AV.int .i64) ([] : List Int))), (7, AV.int .i64 44)] [] 0 (by simp [h2, h2_, h3, h3_, h4, h4_]) (by simp [h2, h2_, h3, h3_, h4, h4_]) (by simp) ?_
      refine AW.own' 6 1 true (by simp [h2, h2_, h3, h3_, h4, h4_]) (by decide) ?_
      simp only [Option.some.injEq, Prod.mk.injEq] at hF
      obtain ⟨e0, e1⟩ := hF
      subst e0 e1
      refine AW.ret (hQ _ _ _ ?_ (matchO_0 ?_)).1
      · simp [Try.f57, h2, h2_, h3, h3_, h4, h4_]
      · simp [h2, h2_, h3, h3_, h4, h4_]
    · replace hF := ite_f h4 hF
      have h4_ := h4
      try simp at h4_
      by_cases h5 : 9 < v2
      · replace hF := ite_t h5 hF
        have h5_ := h5
        try simp at h5_
        try simp [h2, h2_, h3, h3_, h4, h4_, h5, h5_]
        repeat' apply And.intro
        any_goals (first | exact hG163 _ (by kernel_rfl) | refine hR163 _ _ _ ?_ | omega | (unfold maxLen; omega) | (simp [h2, h2_, h3, h3_, h4, h4_, h5, h5_]; done) | (simp [h2, h2_, h3, h3_, h4, h4_, h5, h5_]; omega))
        refine AW.wk [(0, AV.lst false false (List.map (AV.int .i64) v0)), (1, AV.lst false false (List.map (AV.int .i64) v1)), (8, AV.int .i64 v6), (31, AV.bool true)] [] 0 (by simp [h2, h2_, h3, h3_, h4, h4_, h5, h5_]) (by simp [h2, h2_, h3, h3_, h4, h4_, h5, h5_]) (by simp) ?_
        refine AW.condT (by decide) (by simp [h2, h2_, h3, h3_, h4, h4_, h5, h5_]) ?_
        refine AW.seqR mixed [] [none, none] (by kernel_rfl) fun G165 R165 hG165 hR165 => ?_
        try simp [h2, h2_, h3, h3_, h4, h4_, h5, h5_]
        repeat' apply And.intro
        any_goals (first | exact hG165 _ (by kernel_rfl) | refine hR165 _ _ _ ?_ | omega | (unfold maxLen; omega) | (simp [h2, h2_, h3, h3_, h4, h4_, h5, h5_]; done) | (simp [h2, h2_, h3, h3_, h4, h4_, h5, h5_]; omega))
        refine AW.wk [(6, AV.lst true true (List.map (AV.int .i64) ([] : List Int))), (7, AV.int .i64 44)] [] 0 (by simp [h2, h2_, h3, h3_, h4, h4_, h5, h5_]) (by simp [h2, h2_, h3, h3_, h4, h4_, h5, h5_]) (by simp) ?_
        refine AW.own' 6 1 true (by simp [h2, h2_, h3, h3_, h4, h4_, h5, h5_]) (by decide) ?_
        simp only [Option.some.injEq, Prod.mk.injEq] at hF
        obtain ⟨e0, e1⟩ := hF
        subst e0 e1
        refine AW.ret (hQ _ _ _ ?_ (matchO_0 ?_)).1
        · simp [Try.f57, h2, h2_, h3, h3_, h4, h4_, h5, h5_]
        · simp [h2, h2_, h3, h3_, h4, h4_, h5, h5_]
      · replace hF := ite_f h5 hF
        have h5_ := h5
        try simp at h5_
        try simp [h2, h2_, h3, h3_, h4, h4_, h5, h5_]
        repeat' apply And.intro
        any_goals (first | exact hG163 _ (by kernel_rfl) | refine hR163 _ _ _ ?_ | omega | (unfold maxLen; omega) | (simp [h2, h2_, h3, h3_, h4, h4_, h5, h5_]; done) | (simp [h2, h2_, h3, h3_, h4, h4_, h5, h5_]; omega))
        refine AW.wk [(0, AV.lst false false (List.map (AV.int .i64) v0)), (1, AV.lst false false (List.map (AV.int .i64) v1)), (8, AV.int .i64 v6), (31, AV.bool (decide ((v1.length : Int) < v6)))] [] 0 (by simp [h2, h2_, h3, h3_, h4, h4_, h5, h5_]) (by simp [h2, h2_, h3, h3_, h4, h4_, h5, h5_]) (by simp) ?_
        by_cases h6 : (v1.length : Int) < v6
        · replace hF := ite_t h6 hF
          have h6_ := h6
          try simp at h6_
          refine AW.condT (by decide) (by first | (simp [h2, h2_, h3, h3_, h4, h4_, h5, h5_, h6, h6_]; done) | (simp [h2, h2_, h3, h3_, h4, h4_, h5, h5_, h6, h6_]; omega)) ?_
          refine AW.seqR mixed [] [none, none] (by kernel_rfl) fun G166 R166 hG166 hR166 => ?_
          try simp [h2, h2_, h3, h3_, h4, h4_, h5, h5_, h6, h6_]
          repeat' apply And.intro
          any_goals (first | exact hG166 _ (by kernel_rfl) | refine hR166 _ _ _ ?_ | omega | (unfold maxLen; omega) | (simp [h2, h2_, h3, h3_, h4, h4_, h5, h5_, h6, h6_]; done) | (simp [h2, h2_, h3, h3_, h4, h4_, h5, h5_, h6, h6_]; omega))
          refine AW.wk [(6, AV.lst true true (List.map (AV.int .i64) ([] : List Int))), (7, AV.int .i64 44)] [] 0 (by simp [h2, h2_, h3, h3_, h4, h4_, h5, h5_, h6, h6_]) (by simp [h2, h2_, h3, h3_, h4, h4_, h5, h5_, h6, h6_]) (by simp) ?_
          refine AW.own' 6 1 true (by simp [h2, h2_, h3, h3_, h4, h4_, h5, h5_, h6, h6_]) (by decide) ?_
          simp only [Option.some.injEq, Prod.mk.injEq] at hF
          obtain ⟨e0, e1⟩ := hF
          subst e0 e1
          refine AW.ret (hQ _ _ _ ?_ (matchO_0 ?_)).1
          · simp [Try.f57, h2, h2_, h3, h3_, h4, h4_, h5, h5_, h6, h6_]
          · simp [h2, h2_, h3, h3_, h4, h4_, h5, h5_, h6, h6_]
        · replace hF := ite_f h6 hF
          have h6_ := h6
          try simp at h6_
          refine AW.condF (by decide) (by first | (simp [h2, h2_, h3, h3_, h4, h4_, h5, h5_, h6, h6_]; done) | (simp [h2, h2_, h3, h3_, h4, h4_, h5, h5_, h6, h6_]; omega)) ?_
          refine AW.skip ?_
          refine hK162 _ _ _ ?_
          refine AW.seqR mixed [34] [none, none, none, none] (by kernel_rfl) fun G167 R167 hG167 hR167 => ?_
          obtain ⟨h7, hF⟩ := chk_elim hF
          have h7_ := h7
          try simp at h7_
          try simp [h2, h2_, h3, h3_, h4, h4_, h5, h5_, h6, h6_, h7]
          repeat' apply And.intro
          any_goals (first | exact hG167 _ (by kernel_rfl) | refine hR167 _ _ _ ?_ | omega | (unfold maxLen; omega) | (simp [h2, h2_, h3, h3_, h4, h4_, h5, h5_, h6, h6_, h7]; done) | (simp [h2, h2_, h3, h3_, h4, h4_, h5, h5_, h6, h6_, h7]; omega))
          refine AW.wk [(1, AV.lst false false (List.map (AV.int .i64) v1)), (8, AV.int .i64 v6), (9, AV.slc 0 0 1 v0.length false)] [(0, .grow (List.map (AV.int .i64) v0))] 1 (by simp [h2, h2_, h3, h3_, h4, h4_, h5, h5_, h6, h6_, h7]) (by simp [h2, h2_, h3, h3_, h4, h4_, h5, h5_, h6, h6_, h7]) (by simp) ?_
          refine AW.frz 0 (o := .grow (List.map (AV.int .i64) v0)) (by simp [h2, h2_, h3, h3_, h4, h4_, h5, h5_, h6, h6_, h7]) rfl [(9, AV.lst false false (List.map (AV.int .i64) v0))] [] ⟨(.l (by simp) (by simp) (by simp) (by simp)), trivial⟩ trivial ?_
          refine AW.wk [(1, AV.lst false false (List.map (AV.int .i64) v1)), (8, AV.int .i64 v6), (9, AV.lst false false (List.map (AV.int .i64) v0))] [] 1 (by simp [h2, h2_, h3, h3_, h4, h4_, h5, h5_, h6, h6_, h7]) (by simp [h2, h2_, h3, h3_, h4, h4_, h5, h5_, h6, h6_, h7]) (by simp) ?_
          refine AW.seqR mixed [] [none] (by kernel_rfl) fun G168 R168 hG168 hR168 => ?_
          try simp [h2, h2_, h3, h3_, h4, h4_, h5, h5_, h6, h6_, h7]
          repeat' apply And.intro
          any_goals (first | exact hG168 _ (by kernel_rfl) | refine hR168 _ _ _ ?_ | omega | (unfold maxLen; omega) | (simp [h2, h2_, h3, h3_, h4, h4_, h5, h5_, h6, h6_, h7]; done) | (simp [h2, h2_, h3, h3_, h4, h4_, h5, h5_, h6, h6_, h7]; omega))
          refine AW.wk [(1, AV.lst false false (List.map (AV.int .i64) v1)), (8, AV.int .i64 v6), (9, AV.lst false false (List.map (AV.int .i64) v0)), (10, AV.lst true true (List.map (AV.int .i64) ([] : List Int)))] [] 1 (by simp [h2, h2_, h3, h3_, h4, h4_, h5, h5_, h6, h6_, h7]) (by simp [h2, h2_, h3, h3_, h4, h4_, h5, h5_, h6, h6_, h7]) (by simp) ?_
          refine AW.seq fun K234 hK234 => ?_
          refine AW.seqR mixed [] [none] (by kernel_rfl) fun G235 R235 hG235 hR235 => ?_
          try simp [h2, h2_, h3, h3_, h4, h4_, h5, h5_, h6, h6_, h7]
          repeat' apply And.intro
          any_goals (first | exact hG235 _ (by kernel_rfl) | refine hR235 _ _ _ ?_ | omega | (unfold maxLen; omega) | (simp [h2, h2_, h3, h3_, h4, h4_, h5, h5_, h6, h6_, h7]; done) | (simp [h2, h2_, h3, h3_, h4, h4_, h5, h5_, h6, h6_, h7]; omega))
          refine AW.wk [(1, AV.lst false false (List.map (AV.int .i64) v1)), (8, AV.int .i64 v6), (9, AV.lst false false (List.map (AV.int .i64) v0)), (10, AV.lst true true (List.map (AV.int .i64) ([] : List Int))), (11, AV.int .i64 0)] [] 1 (by simp [h2, h2_, h3, h3_, h4, h4_, h5, h5_, h6, h6_, h7]) (by simp [h2, h2_, h3, h3_, h4, h4_, h5, h5_, h6, h6_, h7]) (by simp) ?_
          refine AW.block ?_
          refine AW.own' 10 1 true (by simp [h2, h2_, h3, h3_, h4, h4_, h5, h5_, h6, h6_, h7]) (by decide) ?_
          refine AW.rnm (m := 0) h0 [(0, 1)] [(1, AV.lst false false (List.map (AV.int .i64) v1)), (8, AV.int .i64 v6), (9, AV.lst false false (List.map (AV.int .i64) v0)), (10, AV.slc 0 0 1 (([] : List Int).length) false), (11, AV.int .i64 0)] [(0, .grow (List.map (AV.int .i64) ([] : List Int)))] 1 (by decide) (by decide) (by decide) rfl (by simp [h2, h2_, h3, h3_, h4, h4_, h5, h5_, h6, h6_, h7]) (by simp [h2, h2_, h3, h3_, h4, h4_, h5, h5_, h6, h6_, h7]) ?_
          refine AW.loopF (α := ((List Int) × Int × (List Int))) (fun n (v7, v8, v9) => ref26_Draw.L1 k v1 v6 n v7 v8 v9 = some (v3, v4)) (fun (v7, v8, v9) => [(1, AV.lst false false (List.map (AV.int .i64) v1)), (8, AV.int .i64 v6), (9, AV.lst false false (List.map (AV.int .i64) v7)), (10, AV.slc 0 0 1 v9.length false), (11, AV.int .i64 v8)]) (fun (v7, v8, v9) => [(0, .grow (List.map (AV.int .i64) v9))]) 1 k ((v0, 0, ([] : List Int))) hF (by simp [h2, h2_, h3, h3_, h4, h4_, h5, h5_, h6, h6_, h7]) (by simp [h2, h2_, h3, h3_, h4, h4_, h5, h5_, h6, h6_, h7]) (by simp) ?_
          rintro (_|n1) ⟨v7, v8, v9⟩ hF K278 hK278
          · try dsimp only at hF
            rw [ref26_Draw.L1] at hF; cases hF
          try dsimp only at hF
          rw [ref26_Draw.L1] at hF
          refine AW.seq fun K280 hK280 => ?_
          refine AW.seqR mixed [] [none, none, none] (by kernel_rfl) fun G281 R281 hG281 hR281 => ?_
          try simp [h2, h2_, h3, h3_, h4, h4_, h5, h5_, h6, h6_, h7]
          repeat' apply And.intro
          any_goals (first | exact hG281 _ (by kernel_rfl) | refine hR281 _ _ _ ?_ | omega | (unfold maxLen; omega) | (simp [h2, h2_, h3, h3_, h4, h4_, h5, h5_, h6, h6_, h7]; done) | (simp [h2, h2_, h3, h3_, h4, h4_, h5, h5_, h6, h6_, h7]; omega))
          refine AW.wk [(1, AV.lst false false (List.map (AV.int .i64) v1)), (8, AV.int .i64 v6), (9, AV.lst false false (List.map (AV.int .i64) v7)), (10, AV.slc 0 0 1 v9.length false), (11, AV.int .i64 v8), (37, AV.bool (decide (v8 < v6)))] [(0, .grow (List.map (AV.int .i64) v9))] 1 (by simp [h2, h2_, h3, h3_, h4, h4_, h5, h5_, h6, h6_, h7]) (by simp [h2, h2_, h3, h3_, h4, h4_, h5, h5_, h6, h6_, h7]) (by simp) ?_
          by_cases h8 : v8 < v6
          · replace hF := ite_t h8 hF
            have h8_ := h8
            try simp at h8_
            refine AW.condT (by decide) (by first | (simp [h2, h2_, h3, h3_, h4, h4_, h5, h5_, h6, h6_, h7, h8, h8_]; done) | (simp [h2, h2_, h3, h3_, h4, h4_, h5, h5_, h6, h6_, h7, h8, h8_]; omega)) ?_
            refine AW.skip ?_
            refine hK280 _ _ _ ?_
            refine AW.seq fun K290 hK290 => ?_
            refine AW.block ?_
            refine AW.seq fun K293 hK293 => ?_
            refine AW.seqR mixed [] [none, none, none, none, none] (by kernel_rfl) fun G294 R294 hG294 hR294 => ?_
            obtain ⟨v10, h9, h10, h11, hF⟩ := idx_elim hF
            have h11_ := get_of h11
            try simp at h11_
            have h10_ := h10
            try simp at h10_
            try simp [h2, h2_, h3, h3_, h4, h4_, h5, h5_, h6, h6_, h7, h8, h8_, h9, h10, h11, h11_, h10_]
            repeat' apply And.intro
            any_goals (first | exact hG294 _ (by kernel_rfl) | refine hR294 _ _ _ ?_ | omega | (unfold maxLen; omega) | (simp [h2, h2_, h3, h3_, h4, h4_, h5, h5_, h6, h6_, h7, h8, h8_, h9, h10, h11, h11_, h10_]; done) | (simp [h2, h2_, h3, h3_, h4, h4_, h5, h5_, h6, h6_, h7, h8, h8_, h9, h10, h11, h11_, h10_]; omega))
            refine AW.wk [(1, AV.lst false false (List.map (AV.int .i64) v1)), (8, AV.int .i64 v6), (9, AV.lst false false (List.map (AV.int .i64) v7)), (10, AV.slc 0 0 1 v9.length false), (11, AV.int .i64 v8), (44, AV.bool (decide (v10 < 0)))] [(0, .grow (List.map (AV.int .i64) v9))] 1 (by simp [h2, h2_, h3, h3_, h4, h4_, h5, h5_, h6, h6_, h7, h8, h8_, h9, h10, h11, h11_, h10_]) (by simp [h2, h2_, h3, h3_, h4, h4_, h5, h5_, h6, h6_, h7, h8, h8_, h9, h10, h11, h11_, h10_]) (by simp) ?_
            by_cases h12 : v10 < 0
            · replace hF := ite_t h12 hF
              have h12_ := h12
              try simp at h12_
              refine AW.condT (by decide) (by first | (simp [h2, h2_, h3, h3_, h4, h4_, h5, h5_, h6, h6_, h7, h8, h8_, h9, h10, h11, h11_, h10_, h12, h12_]; done) | (simp [h2, h2_, h3, h3_, h4, h4_, h5, h5_, h6, h6_, h7, h8, h8_, h9, h10, h11, h11_, h10_, h12, h12_]; omega)) ?_
              refine AW.seqR mixed [] [none, none] (by kernel_rfl) fun G295 R295 hG295 hR295 => ?_
              try simp [h2, h2_, h3, h3_, h4, h4_, h5, h5_, h6, h6_, h7, h8, h8_, h9, h10, h11, h11_, h10_, h12, h12_]
              repeat' apply And.intro
              any_goals (first | exact hG295 _ (by kernel_rfl) | refine hR295 _ _ _ ?_ | omega | (unfold maxLen; omega) | (simp [h2, h2_, h3, h3_, h4, h4_, h5, h5_, h6, h6_, h7, h8, h8_, h9, h10, h11, h11_, h10_, h12, h12_]; done) | (simp [h2, h2_, h3, h3_, h4, h4_, h5, h5_, h6, h6_, h7, h8, h8_, h9, h10, h11, h11_, h10_, h12, h12_]; omega))
              refine AW.wk [(6, AV.lst true true (List.map (AV.int .i64) ([] : List Int))), (7, AV.int .i64 44)] [] 1 (by simp [h2, h2_, h3, h3_, h4, h4_, h5, h5_, h6, h6_, h7, h8, h8_, h9, h10, h11, h11_, h10_, h12, h12_]) (by simp [h2, h2_, h3, h3_, h4, h4_, h5, h5_, h6, h6_, h7, h8, h8_, h9, h10, h11, h11_, h10_, h12, h12_]) (by simp) ?_
              refine AW.own' 6 1 true (by simp [h2, h2_, h3, h3_, h4, h4_, h5, h5_, h6, h6_, h7, h8, h8_, h9, h10, h11, h11_, h10_, h12, h12_]) (by decide) ?_
              refine AW.rnm (m := 0) h0 [(0, 1)] [(6, AV.slc 0 0 1 (([] : List Int).length) false), (7, AV.int .i64 44)] [(0, .grow (List.map (AV.int .i64) ([] : List Int)))] 1 (by decide) (by decide) (by decide) rfl (by simp [h2, h2_, h3, h3_, h4, h4_, h5, h5_, h6, h6_, h7, h8, h8_, h9, h10, h11, h11_, h10_, h12, h12_]) (by simp [h2, h2_, h3, h3_, h4, h4_, h5, h5_, h6, h6_, h7, h8, h8_, h9, h10, h11, h11_, h10_, h12, h12_]) ?_
              simp only [Option.some.injEq, Prod.mk.injEq] at hF
              obtain ⟨e0, e1⟩ := hF
              subst e0 e1
              refine AW.ret (hQ _ _ _ ?_ (matchO_0 ?_)).1
              · simp [Try.f57, h2, h2_, h3, h3_, h4, h4_, h5, h5_, h6, h6_, h7, h8, h8_, h9, h10, h11, h11_, h10_, h12, h12_]
              · simp [h2, h2_, h3, h3_, h4, h4_, h5, h5_, h6, h6_, h7, h8, h8_, h9, h10, h11, h11_, h10_, h12, h12_]
            · replace hF := ite_f h12 hF
              have h12_ := h12
              try simp at h12_
              refine AW.condF (by decide) (by first | (simp [h2, h2_, h3, h3_, h4, h4_, h5, h5_, h6, h6_, h7, h8, h8_, h9, h10, h11, h11_, h10_, h12, h12_]; done) | (simp [h2, h2_, h3, h3_, h4, h4_, h5, h5_, h6, h6_, h7, h8, h8_, h9, h10, h11, h11_, h10_, h12, h12_]; omega)) ?_
              refine AW.skip ?_
              refine hK293 _ _ _ ?_
              refine AW.seqR mixed [] [none, none, none, none, none, none, none, none] (by kernel_rfl) fun G296 R296 hG296 hR296 => ?_
              obtain ⟨h13, hF⟩ := chk_elim hF
              have h13_ := h13
              try simp at h13_
              try simp [h2, h2_, h3, h3_, h4, h4_, h5, h5_, h6, h6_, h7, h8, h8_, h9, h10, h11, h11_, h10_, h12, h12_, h13, h13_]
              repeat' apply And.intro
              any_goals (first | exact hG296 _ (by kernel_rfl) | refine hR296 _ _ _ ?_ | omega | (unfold maxLen; omega) | (simp [h2, h2_, h3, h3_, h4, h4_, h5, h5_, h6, h6_, h7, h8, h8_, h9, h10, h11, h11_, h10_, h12, h12_, h13, h13_]; done) | (simp [h2, h2_, h3, h3_, h4, h4_, h5, h5_, h6, h6_, h7, h8, h8_, h9, h10, h11, h11_, h10_, h12, h12_, h13, h13_]; omega))
              refine AW.wk [(1, AV.lst false false (List.map (AV.int .i64) v1)), (8, AV.int .i64 v6), (9, AV.lst false false (List.map (AV.int .i64) v7)), (10, AV.slc 0 0 1 v9.length false), (11, AV.int .i64 v8), (12, AV.int .i64 (Int.tmod v10 (v7.length : Int)))] [(0, .grow (List.map (AV.int .i64) v9))] 1 (by simp [h2, h2_, h3, h3_, h4, h4_, h5, h5_, h6, h6_, h7, h8, h8_, h9, h10, h11, h11_, h10_, h12, h12_, h13, h13_]) (by simp [h2, h2_, h3, h3_, h4, h4_, h5, h5_, h6, h6_, h7, h8, h8_, h9, h10, h11, h11_, h10_, h12, h12_, h13, h13_]) (by simp) ?_
              refine AW.seqR mixed [] [none, none, none, none, none, none, none, none] (by kernel_rfl) fun G297 R297 hG297 hR297 => ?_
              obtain ⟨v11, h14, h15, h16, hF⟩ := idx_elim hF
              have h16_ := get_of h16
              try simp at h16_
              have h15_ := h15
              try simp at h15_
              obtain ⟨h17, hF⟩ := chk_elim hF
              have h17_ := h17
              try simp at h17_
              try simp [h2, h2_, h3, h3_, h4, h4_, h5, h5_, h6, h6_, h7, h8, h8_, h9, h10, h11, h11_, h10_, h12, h12_, h13, h13_, h14, h15, h16, h16_, h15_, h17]
              repeat' apply And.intro
              any_goals (first | exact hG297 _ (by kernel_rfl) | refine hR297 _ _ _ ?_ | omega | (unfold maxLen; omega) | (simp [h2, h2_, h3, h3_, h4, h4_, h5, h5_, h6, h6_, h7, h8, h8_, h9, h10, h11, h11_, h10_, h12, h12_, h13, h13_, h14, h15, h16, h16_, h15_, h17]; done) | (simp [h2, h2_, h3, h3_, h4, h4_, h5, h5_, h6, h6_, h7, h8, h8_, h9, h10, h11, h11_, h10_, h12, h12_, h13, h13_, h14, h15, h16, h16_, h15_, h17]; omega))
              refine AW.wk [(1, AV.lst false false (List.map (AV.int .i64) v1)), (8, AV.int .i64 v6), (9, AV.lst false false (List.map (AV.int .i64) v7)), (10, AV.slc 1 0 1 ((v9 ++ ([v11] : List Int)).length) false), (11, AV.int .i64 v8), (12, AV.int .i64 (Int.tmod v10 (v7.length : Int)))] [(1, .grow (List.map (AV.int .i64) (v9 ++ ([v11] : List Int))))] 2 (by simp [h2, h2_, h3, h3_, h4, h4_, h5, h5_, h6, h6_, h7, h8, h8_, h9, h10, h11, h11_, h10_, h12, h12_, h13, h13_, h14, h15, h16, h16_, h15_, h17]) (by simp [h2, h2_, h3, h3_, h4, h4_, h5, h5_, h6, h6_, h7, h8, h8_, h9, h10, h11, h11_, h10_, h12, h12_, h13, h13_, h14, h15, h16, h16_, h15_, h17]) (by simp) ?_
              refine AW.region mixed [63] [none, none, none, none, none, none, none, none, none, none, none] (by kernel_rfl) fun G298 R298 hG298 hR298 => ?_
              obtain ⟨⟨h18, h19⟩, hF⟩ := chk_elim hF
              have h18_ := h18
              try simp at h18_
              have h19_ := h19
              try simp at h19_
              obtain ⟨h20, hF⟩ := chk_elim hF
              have h20_ := h20
              try simp at h20_
              obtain ⟨⟨h21, h22⟩, hF⟩ := chk_elim hF
              have h21_ := h21
              try simp at h21_
              have h22_ := h22
              try simp at h22_
              obtain ⟨h23, hF⟩ := chk_elim hF
              have h23_ := h23
              try simp at h23_
              try simp [h2, h2_, h3, h3_, h4, h4_, h5, h5_, h6, h6_, h7, h8, h8_, h9, h10, h11, h11_, h10_, h12, h12_, h13, h13_, h14, h15, h16, h16_, h15_, h17, h18, h19, h18_, h19_, h20, h21, h22, h21_, h22_, h23]
              repeat' apply And.intro
              any_goals (first | exact hG298 _ (by kernel_rfl) | refine hR298 _ _ _ ?_ | omega | (unfold maxLen; omega) | (simp [h2, h2_, h3, h3_, h4, h4_, h5, h5_, h6, h6_, h7, h8, h8_, h9, h10, h11, h11_, h10_, h12, h12_, h13, h13_, h14, h15, h16, h16_, h15_, h17, h18, h19, h18_, h19_, h20, h21, h22, h21_, h22_, h23]; done) | (simp [h2, h2_, h3, h3_, h4, h4_, h5, h5_, h6, h6_, h7, h8, h8_, h9, h10, h11, h11_, h10_, h12, h12_, h13, h13_, h14, h15, h16, h16_, h15_, h17, h18, h19, h18_, h19_, h20, h21, h22, h21_, h22_, h23]; omega))
              refine hK290 _ _ _ ?_
              refine AW.wk [(1, AV.lst false false (List.map (AV.int .i64) v1)), (8, AV.int .i64 v6), (9, AV.slc 3 0 1 (((v7.take (Int.tmod v10 (v7.length : Int)).toNat) ++ (v7.drop (IntKind.wrap .i64 (Int.tmod v10 (v7.length : Int) + 1)).toNat)).length) false), (10, AV.slc 1 0 1 ((v9 ++ ([v11] : List Int)).length) false), (11, AV.int .i64 v8)] [(1, .grow (List.map (AV.int .i64) (v9 ++ ([v11] : List Int)))), (3, .grow (List.map (AV.int .i64) ((v7.take (Int.tmod v10 (v7.length : Int)).toNat) ++ (v7.drop (IntKind.wrap .i64 (Int.tmod v10 (v7.length : Int) + 1)).toNat))))] 4 (by simp [h2, h2_, h3, h3_, h4, h4_, h5, h5_, h6, h6_, h7, h8, h8_, h9, h10, h11, h11_, h10_, h12, h12_, h13, h13_, h14, h15, h16, h16_, h15_, h17, h18, h19, h18_, h19_, h20, h21, h22, h21_, h22_, h23]) (by simp [h2, h2_, h3, h3_, h4, h4_, h5, h5_, h6, h6_, h7, h8, h8_, h9, h10, h11, h11_, h10_, h12, h12_, h13, h13_, h14, h15, h16, h16_, h15_, h17, h18, h19, h18_, h19_, h20, h21, h22, h21_, h22_, h23]) (by simp) ?_
              refine AW.frz 3 (o := .grow (List.map (AV.int .i64) ((v7.take (Int.tmod v10 (v7.length : Int)).toNat) ++ (v7.drop (IntKind.wrap .i64 (Int.tmod v10 (v7.length : Int) + 1)).toNat)))) (by simp [h2, h2_, h3, h3_, h4, h4_, h5, h5_, h6, h6_, h7, h8, h8_, h9, h10, h11, h11_, h10_, h12, h12_, h13, h13_, h14, h15, h16, h16_, h15_, h17, h18, h19, h18_, h19_, h20, h21, h22, h21_, h22_, h23]) rfl [(9, AV.lst false false (List.map (AV.int .i64) ((v7.take (Int.tmod v10 (v7.length : Int)).toNat) ++ (v7.drop (IntKind.wrap .i64 (Int.tmod v10 (v7.length : Int) + 1)).toNat))))] [] ⟨(.l (by simp) (by simp) (by simp) (by simp)), trivial⟩ trivial ?_
              refine AW.wk [(1, AV.lst false false (List.map (AV.int .i64) v1)), (8, AV.int .i64 v6), (9, AV.lst false false (List.map (AV.int .i64) ((v7.take (Int.tmod v10 (v7.length : Int)).toNat) ++ (v7.drop (IntKind.wrap .i64 (Int.tmod v10 (v7.length : Int) + 1)).toNat)))), (10, AV.slc 1 0 1 ((v9 ++ ([v11] : List Int)).length) false), (11, AV.int .i64 v8)] [(1, .grow (List.map (AV.int .i64) (v9 ++ ([v11] : List Int))))] 4 (by simp [h2, h2_, h3, h3_, h4, h4_, h5, h5_, h6, h6_, h7, h8, h8_, h9, h10, h11, h11_, h10_, h12, h12_, h13, h13_, h14, h15, h16, h16_, h15_, h17, h18, h19, h18_, h19_, h20, h21, h22, h21_, h22_, h23]) (by simp [h2, h2_, h3, h3_, h4, h4_, h5, h5_, h6, h6_, h7, h8, h8_, h9, h10, h11, h11_, h10_, h12, h12_, h13, h13_, h14, h15, h16, h16_, h15_, h17, h18, h19, h18_, h19_, h20, h21, h22, h21_, h22_, h23]) (by simp) ?_
              refine AW.region mixed [] [none, none, none] (by kernel_rfl) fun G299 R299 hG299 hR299 => ?_
              try simp [h2, h2_, h3, h3_, h4, h4_, h5, h5_, h6, h6_, h7, h8, h8_, h9, h10, h11, h11_, h10_, h12, h12_, h13, h13_, h14, h15, h16, h16_, h15_, h17, h18, h19, h18_, h19_, h20, h21, h22, h21_, h22_, h23]
              repeat' apply And.intro
              any_goals (first | exact hG299 _ (by kernel_rfl) | refine hR299 _ _ _ ?_ | omega | (unfold maxLen; omega) | (simp [h2, h2_, h3, h3_, h4, h4_, h5, h5_, h6, h6_, h7, h8, h8_, h9, h10, h11, h11_, h10_, h12, h12_, h13, h13_, h14, h15, h16, h16_, h15_, h17, h18, h19, h18_, h19_, h20, h21, h22, h21_, h22_, h23]; done) | (simp [h2, h2_, h3, h3_, h4, h4_, h5, h5_, h6, h6_, h7, h8, h8_, h9, h10, h11, h11_, h10_, h12, h12_, h13, h13_, h14, h15, h16, h16_, h15_, h17, h18, h19, h18_, h19_, h20, h21, h22, h21_, h22_, h23]; omega))
              refine hK278 _ _ _ ?_
              refine Can.weak [(1, AV.lst false false (List.map (AV.int .i64) v1)), (8, AV.int .i64 v6), (9, AV.lst false false (List.map (AV.int .i64) ((v7.take (Int.tmod v10 (v7.length : Int)).toNat) ++ (v7.drop (IntKind.wrap .i64 (Int.tmod v10 (v7.length : Int) + 1)).toNat)))), (10, AV.slc 1 0 1 ((v9 ++ ([v11] : List Int)).length) false), (11, AV.int .i64 (IntKind.wrap .i64 (v8 + 1)))] [(1, .grow (List.map (AV.int .i64) (v9 ++ ([v11] : List Int))))] 4 (by simp [h2, h2_, h3, h3_, h4, h4_, h5, h5_, h6, h6_, h7, h8, h8_, h9, h10, h11, h11_, h10_, h12, h12_, h13, h13_, h14, h15, h16, h16_, h15_, h17, h18, h19, h18_, h19_, h20, h21, h22, h21_, h22_, h23]) (by simp [h2, h2_, h3, h3_, h4, h4_, h5, h5_, h6, h6_, h7, h8, h8_, h9, h10, h11, h11_, h10_, h12, h12_, h13, h13_, h14, h15, h16, h16_, h15_, h17, h18, h19, h18_, h19_, h20, h21, h22, h21_, h22_, h23]) (by simp) ?_
              refine Can.ren (m := 0) h0 [(0, 1)] [(1, AV.lst false false (List.map (AV.int .i64) v1)), (8, AV.int .i64 v6), (9, AV.lst false false (List.map (AV.int .i64) ((v7.take (Int.tmod v10 (v7.length : Int)).toNat) ++ (v7.drop (IntKind.wrap .i64 (Int.tmod v10 (v7.length : Int) + 1)).toNat)))), (10, AV.slc 0 0 1 ((v9 ++ ([v11] : List Int)).length) false), (11, AV.int .i64 (IntKind.wrap .i64 (v8 + 1)))] [(0, .grow (List.map (AV.int .i64) (v9 ++ ([v11] : List Int))))] 1 (by decide) (by decide) (by decide) rfl (by simp [h2, h2_, h3, h3_, h4, h4_, h5, h5_, h6, h6_, h7, h8, h8_, h9, h10, h11, h11_, h10_, h12, h12_, h13, h13_, h14, h15, h16, h16_, h15_, h17, h18, h19, h18_, h19_, h20, h21, h22, h21_, h22_, h23]) (by simp [h2, h2_, h3, h3_, h4, h4_, h5, h5_, h6, h6_, h7, h8, h8_, h9, h10, h11, h11_, h10_, h12, h12_, h13, h13_, h14, h15, h16, h16_, h15_, h17, h18, h19, h18_, h19_, h20, h21, h22, h21_, h22_, h23]) ?_
              exact Can.next (k' := n1) (((v7.take (Int.tmod v10 (v7.length : Int)).toNat) ++ (v7.drop (IntKind.wrap .i64 (Int.tmod v10 (v7.length : Int) + 1)).toNat), IntKind.wrap .i64 (v8 + 1), v9 ++ ([v11] : List Int))) (by omega) hF (by simp [h2, h2_, h3, h3_, h4, h4_, h5, h5_, h6, h6_, h7, h8, h8_, h9, h10, h11, h11_, h10_, h12, h12_, h13, h13_, h14, h15, h16, h16_, h15_, h17, h18, h19, h18_, h19_, h20, h21, h22, h21_, h22_, h23]) (by simp [h2, h2_, h3, h3_, h4, h4_, h5, h5_, h6, h6_, h7, h8, h8_, h9, h10, h11, h11_, h10_, h12, h12_, h13, h13_, h14, h15, h16, h16_, h15_, h17, h18, h19, h18_, h19_, h20, h21, h22, h21_, h22_, h23]) (by simp)
          · replace hF := ite_f h8 hF
            have h8_ := h8
            try simp at h8_
            refine AW.condF (by decide) (by first | (simp [h2, h2_, h3, h3_, h4, h4_, h5, h5_, h6, h6_, h7, h8, h8_]; done) | (simp [h2, h2_, h3, h3_, h4, h4_, h5, h5_, h6, h6_, h7, h8, h8_]; omega)) ?_
            refine AW.exit ?_
            try simp
            refine hK234 _ _ _ ?_
            refine AW.seqR mixed [] [none, none, none] (by kernel_rfl) fun G300 R300 hG300 hR300 => ?_
            try simp [h2, h2_, h3, h3_, h4, h4_, h5, h5_, h6, h6_, h7, h8, h8_]
            repeat' apply And.intro
            any_goals (first | exact hG300 _ (by kernel_rfl) | refine hR300 _ _ _ ?_ | omega | (unfold maxLen; omega) | (simp [h2, h2_, h3, h3_, h4, h4_, h5, h5_, h6, h6_, h7, h8, h8_]; done) | (simp [h2, h2_, h3, h3_, h4, h4_, h5, h5_, h6, h6_, h7, h8, h8_]; omega))
            refine AW.wk [(6, AV.slc 0 0 1 v9.length false), (7, AV.int .i64 0)] [(0, .grow (List.map (AV.int .i64) v9))] 1 (by simp [h2, h2_, h3, h3_, h4, h4_, h5, h5_, h6, h6_, h7, h8, h8_]) (by simp [h2, h2_, h3, h3_, h4, h4_, h5, h5_, h6, h6_, h7, h8, h8_]) (by simp) ?_
            simp only [Option.some.injEq, Prod.mk.injEq] at hF
            obtain ⟨e0, e1⟩ := hF
            subst e0 e1
            refine AW.ret (hQ _ _ _ ?_ (matchO_0 ?_)).1
            · simp [Try.f57, h2, h2_, h3, h3_, h4, h4_, h5, h5_, h6, h6_, h7, h8, h8_]
            · simp [h2, h2_, h3, h3_, h4, h4_, h5, h5_, h6, h6_, h7, h8, h8_]
set_option maxHeartbeats 4000000 in
theorem w_committee_Enough (k : Nat) (v0 : Int) (v1 : Int) (v2 : Bool) (hF : committee_Enough k v0 v1 = some v2) :
    FCall Try.prog 58 [AV.int .i64 v0, AV.int .i64 v1] [] (AV.bool v2) [] := by
  unfold committee_Enough at hF
  refine FCall.enter Try.func58 rfl (by simp) (by decide) (by simp) (by simp) (by simp) (by simp) (by simp) ?_
  intro c0 w0 Q h0 hQ
  refine AW.wk [(0, AV.int .i64 v0), (1, AV.int .i64 v1)] [] 0 (by simp) (by simp) (by simp) ?_
  refine AW.seqR mixed [] [none] (by kernel_rfl) fun G3 R3 hG3 hR3 => ?_
  try simp
  repeat' apply And.intro
  any_goals (first | exact hG3 _ (by kernel_rfl) | refine hR3 _ _ _ ?_ | omega | (unfold maxLen; omega) | (simp; done) | (simp; omega))
  refine AW.wk [(0, AV.int .i64 v0), (1, AV.int .i64 v1)] [] 0 (by simp) (by simp) (by simp) ?_
  refine AW.seqR mixed [] [none, none, none, some (7, true), some (7, true), none, none, some (11, true), some (11, true), none, none, some (15, true), some (15, true), some (15, true), none, none, some (20, true), some (20, true), some (20, true), some (20, true), some (20, true), none, none] (by kernel_rfl) fun G4 R4 hG4 hR4 => ?_
  by_cases h1 : 1 ≤ v1
  · replace hF := ite_t h1 hF
    have h1_ := h1
    try simp at h1_
    by_cases h2 : v1 ≤ 9
    · replace hF := ite_t h2 hF
      have h2_ := h2
      try simp at h2_
      by_cases h3 : 0 ≤ v0
      · replace hF := ite_t h3 hF
        have h3_ := h3
        try simp at h3_
        by_cases h4 : v0 ≤ v1
        · replace hF := ite_t h4 hF
          have h4_ := h4
          try simp at h4_
          try simp [h1, h1_, h2, h2_, h3, h3_, h4, h4_]
          repeat' apply And.intro
          any_goals (first | exact hG4 _ (by kernel_rfl) | refine hR4 _ _ _ ?_ | omega | (unfold maxLen; omega) | (simp [h1, h1_, h2, h2_, h3, h3_, h4, h4_]; done) | (simp [h1, h1_, h2, h2_, h3, h3_, h4, h4_]; omega))
          refine AW.wk [(4, AV.bool (decide (IntKind.wrap .i64 (3 * v1) < IntKind.wrap .i64 (4 * v0))))] [] 0 (by simp [h1, h1_, h2, h2_, h3, h3_, h4, h4_]) (by simp [h1, h1_, h2, h2_, h3, h3_, h4, h4_]) (by simp) ?_
          simp only [Option.some.injEq] at hF
          subst hF
          refine AW.ret (hQ _ _ _ ?_ (matchO_0 ?_)).1
          · simp [Try.f58, h1, h1_, h2, h2_, h3, h3_, h4, h4_]
          · simp [h1, h1_, h2, h2_, h3, h3_, h4, h4_]
        · replace hF := ite_f h4 hF
          have h4_ := h4
          try simp at h4_
          try simp [h1, h1_, h2, h2_, h3, h3_, h4, h4_]
          repeat' apply And.intro
          any_goals (first | exact hG4 _ (by kernel_rfl) | refine hR4 _ _ _ ?_ | omega | (unfold maxLen; omega) | (simp [h1, h1_, h2, h2_, h3, h3_, h4, h4_]; done) | (simp [h1, h1_, h2, h2_, h3, h3_, h4, h4_]; omega))
          refine AW.wk [(4, AV.bool false)] [] 0 (by simp [h1, h1_, h2, h2_, h3, h3_, h4, h4_]) (by simp [h1, h1_, h2, h2_, h3, h3_, h4, h4_]) (by simp) ?_
          simp only [Option.some.injEq] at hF
          subst hF
          refine AW.ret (hQ _ _ _ ?_ (matchO_0 ?_)).1
          · simp [Try.f58, h1, h1_, h2, h2_, h3, h3_, h4, h4_]
          · simp [h1, h1_, h2, h2_, h3, h3_, h4, h4_]
      · replace hF := ite_f h3 hF
        have h3_ := h3
        try simp at h3_
        try simp [h1, h1_, h2, h2_, h3, h3_]
        repeat' apply And.intro
        any_goals (first | exact hG4 _ (by kernel_rfl) | refine hR4 _ _ _ ?_ | omega | (unfold maxLen; omega) | (simp [h1, h1_, h2, h2_, h3, h3_]; done) | (simp [h1, h1_, h2, h2_, h3, h3_]; omega))
        refine AW.wk [(4, AV.bool false)] [] 0 (by simp [h1, h1_, h2, h2_, h3, h3_]) (by simp [h1, h1_, h2, h2_, h3, h3_]) (by simp) ?_
        simp only [Option.some.injEq] at hF
        subst hF
        refine AW.ret (hQ _ _ _ ?_ (matchO_0 ?_)).1
        · simp [Try.f58, h1, h1_, h2, h2_, h3, h3_]
        · simp [h1, h1_, h2, h2_, h3, h3_]
    · replace hF := ite_f h2 hF
      have h2_ := h2
      try simp at h2_
      try simp [h1, h1_, h2, h2_]
      repeat' apply And.intro
      any_goals (first | exact hG4 _ (by kernel_rfl) | refine hR4 _ _ _ ?_ | omega | (unfold maxLen; omega) | (simp [h1, h1_, h2, h2_]; done) | (simp [h1, h1_, h2, h2_]; omega))
      refine AW.wk [(4, AV.bool false)] [] 0 (by simp [h1, h1_, h2, h2_]) (by simp [h1, h1_, h2, h2_]) (by simp) ?_
      simp only [Option.some.injEq] at hF
      subst hF
      refine AW.ret (hQ _ _ _ ?_ (matchO_0 ?_)).1
      · simp [Try.f58, h1, h1_, h2, h2_]
      · simp [h1, h1_, h2, h2_]
  · replace hF := ite_f h1 hF
    have h1_ := h1
    try simp at h1_
    try simp [h1, h1_]
    repeat' apply And.intro
    any_goals (first | exact hG4 _ (by kernel_rfl) | refine hR4 _ _ _ ?_ | omega | (unfold maxLen; omega) | (simp [h1, h1_]; done) | (simp [h1, h1_]; omega))
    refine AW.wk [(4, AV.bool false)] [] 0 (by simp [h1, h1_]) (by simp [h1, h1_]) (by simp) ?_
    simp only [Option.some.injEq] at hF
    subst hF
    refine AW.ret (hQ _ _ _ ?_ (matchO_0 ?_)).1
    · simp [Try.f58, h1, h1_]
    · simp [h1, h1_]
set_option maxHeartbeats 4000000 in
theorem w_ref26_Enough (k : Nat) (v0 : Int) (v1 : Int) (v2 : Bool) (hF : ref26_Enough k v0 v1 = some v2) :
    FCall Try.prog 59 [AV.int .i64 v0, AV.int .i64 v1] [] (AV.bool v2) [] := by
  unfold ref26_Enough at hF
  refine FCall.enter Try.func59 rfl (by simp) (by decide) (by simp) (by simp) (by simp) (by simp) (by simp) ?_
  intro c0 w0 Q h0 hQ
  refine AW.wk [(0, AV.int .i64 v0), (1, AV.int .i64 v1)] [] 0 (by simp) (by simp) (by simp) ?_
  refine AW.seqR mixed [] [none] (by kernel_rfl) fun G3 R3 hG3 hR3 => ?_
  try simp
  repeat' apply And.intro
  any_goals (first | exact hG3 _ (by kernel_rfl) | refine hR3 _ _ _ ?_ | omega | (unfold maxLen; omega) | (simp; done) | (simp; omega))
  refine AW.wk [(0, AV.int .i64 v0), (1, AV.int .i64 v1)] [] 0 (by simp) (by simp) (by simp) ?_
  refine AW.seqR mixed [] [none, none, none, some (7, true), some (7, true), none, none, some (11, true), some (11, true), none, none, some (15, true), some (15, true), some (15, true), none, none, some (20, true), some (20, true), some (20, true), some (20, true), some (20, true), none, none] (by kernel_rfl) fun G4 R4 hG4 hR4 => ?_
  by_cases h1 : 1 ≤ v1
  · replace hF := ite_t h1 hF
    have h1_ := h1
    try simp at h1_
    by_cases h2 : v1 ≤ 9
    · replace hF := ite_t h2 hF
      have h2_ := h2
      try simp at h2_
      by_cases h3 : 0 ≤ v0
      · replace hF := ite_t h3 hF
        have h3_ := h3
        try simp at h3_
        by_cases h4 : v0 ≤ v1
        · replace hF := ite_t h4 hF
          have h4_ := h4
          try simp at h4_
          try simp [h1, h1_, h2, h2_, h3, h3_, h4, h4_]
          repeat' apply And.intro
          any_goals (first | exact hG4 _ (by kernel_rfl) | refine hR4 _ _ _ ?_ | omega | (unfold maxLen; omega) | (simp [h1, h1_, h2, h2_, h3, h3_, h4, h4_]; done) | (simp [h1, h1_, h2, h2_, h3, h3_, h4, h4_]; omega))
          refine AW.wk [(4, AV.bool (decide (IntKind.wrap .i64 (3 * v1) < IntKind.wrap .i64 (4 * v0))))] [] 0 (by simp [h1, h1_, h2, h2_, h3, h3_, h4, h4_]) (by simp [h1, h1_, h2, h2_, h3, h3_, h4, h4_]) (by simp) ?_
          simp only [Option.some.injEq] at hF
          subst hF
          refine AW.ret (hQ _ _ _ ?_ (matchO_0 ?_)).1
          · simp [Try.f59, h1, h1_, h2, h2_, h3, h3_, h4, h4_]
          · simp [h1, h1_, h2, h2_, h3, h3_, h4, h4_]
        · replace hF := ite_f h4 hF
          have h4_ := h4
          try simp at h4_
          try simp [h1, h1_, h2, h2_, h3, h3_, h4, h4_]
          repeat' apply And.intro
          any_goals (first | exact hG4 _ (by kernel_rfl) | refine hR4 _ _ _ ?_ | omega | (unfold maxLen; omega) | (simp [h1, h1_, h2, h2_, h3, h3_, h4, h4_]; done) | (simp [h1, h1_, h2, h2_, h3, h3_, h4, h4_]; omega))
          refine AW.wk [(4, AV.bool false)] [] 0 (by simp [h1, h1_, h2, h2_, h3, h3_, h4, h4_]) (by simp [h1, h1_, h2, h2_, h3, h3_, h4, h4_]) (by simp) ?_
          simp only [Option.some.injEq] at hF
          subst hF
          refine AW.ret (hQ _ _ _ ?_ (matchO_0 ?_)).1
          · simp [Try.f59, h1, h1_, h2, h2_, h3, h3_, h4, h4_]
          · simp [h1, h1_, h2, h2_, h3, h3_, h4, h4_]
      · replace hF := ite_f h3 hF
        have h3_ := h3
        try simp at h3_
        try simp [h1, h1_, h2, h2_, h3, h3_]
        repeat' apply And.intro
        any_goals (first | exact hG4 _ (by kernel_rfl) | refine hR4 _ _ _ ?_ | omega | (unfold maxLen; omega) | (simp [h1, h1_, h2, h2_, h3, h3_]; done) | (simp [h1, h1_, h2, h2_, h3, h3_]; omega))
        refine AW.wk [(4, AV.bool false)] [] 0 (by simp [h1, h1_, h2, h2_, h3, h3_]) (by simp [h1, h1_, h2, h2_, h3, h3_]) (by simp) ?_
        simp only [Option.some.injEq] at hF
        subst hF
        refine AW.ret (hQ _ _ _ ?_ (matchO_0 ?_)).1
        · simp [Try.f59, h1, h1_, h2, h2_, h3, h3_]
        · simp [h1, h1_, h2, h2_, h3, h3_]
    · replace hF := ite_f h2 hF
      have h2_ := h2
      try simp at h2_
      try simp [h1, h1_, h2, h2_]
      repeat' apply And.intro
      any_goals (first | exact hG4 _ (by kernel_rfl) | refine hR4 _ _ _ ?_ | omega | (unfold maxLen; omega) | (simp [h1, h1_, h2, h2_]; done) | (simp [h1, h1_, h2, h2_]; omega))
      refine AW.wk [(4, AV.bool false)] [] 0 (by simp [h1, h1_, h2, h2_]) (by simp [h1, h1_, h2, h2_]) (by simp) ?_
      simp only [Option.some.injEq] at hF
      subst hF
      refine AW.ret (hQ _ _ _ ?_ (matchO_0 ?_)).1
      · simp [Try.f59, h1, h1_, h2, h2_]
      · simp [h1, h1_, h2, h2_]
  · replace hF := ite_f h1 hF
    have h1_ := h1
    try simp at h1_
    try simp [h1, h1_]
    repeat' apply And.intro
    any_goals (first | exact hG4 _ (by kernel_rfl) | refine hR4 _ _ _ ?_ | omega | (unfold maxLen; omega) | (simp [h1, h1_]; done) | (simp [h1, h1_]; omega))
    refine AW.wk [(4, AV.bool false)] [] 0 (by simp [h1, h1_]) (by simp [h1, h1_]) (by simp) ?_
    simp only [Option.some.injEq] at hF
    subst hF
    refine AW.ret (hQ _ _ _ ?_ (matchO_0 ?_)).1
    · simp [Try.f59, h1, h1_]
    · simp [h1, h1_]
end Go.TF
