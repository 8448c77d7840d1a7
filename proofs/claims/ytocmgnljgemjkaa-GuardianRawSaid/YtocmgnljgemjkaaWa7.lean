/- Walks: the Go text computes the Lean functions (printed by a program of our own). -/
import Derived.Test.YtocmgnljgemjkaaPu
import Derived.Test.YtocmgnljgemjkaaAbsT
import Derived.Test.YtocmgnljgemjkaaWa0
import Derived.Test.YtocmgnljgemjkaaWa2
import Derived.Test.YtocmgnljgemjkaaWa5
set_option linter.unusedVariables false
set_option linter.unusedSimpArgs false
set_option maxRecDepth 100000
namespace Go.TF
open Go Go.Abs Go.Proofs Go.Proofs.YtocmgnljgemjkaaT
set_option maxHeartbeats 4000000 in
theorem w_ref24_Minus (k : Nat) (v0 : (List Int)) (v1 : (List Int)) (v2 : (List Int)) (hF : ref24_Minus k v0 v1 = some v2) :
    FCall Try.prog 72 [AV.lst false false (List.map (AV.int .i64) v0), AV.lst false false (List.map (AV.int .i64) v1)] [] (AV.slc 0 0 1 v2.length false) [some (.grow (List.map (AV.int .i64) v2))] := by
  unfold ref24_Minus at hF
  refine FCall.enter Try.func72 rfl (by simp) (by decide) (by simp) (by simp) (by simp) (by simp) (by simp) ?_
  intro c0 w0 Q h0 hQ
  refine AW.wk [(0, AV.lst false false (List.map (AV.int .i64) v0)), (1, AV.lst false false (List.map (AV.int .i64) v1))] [] 0 (by simp) (by simp) (by simp) ?_
  refine AW.seqR mixed [] [none] (by kernel_rfl) fun G63 R63 hG63 hR63 => ?_
  try simp
  repeat' apply And.intro
  any_goals (first | exact hG63 _ (by kernel_rfl) | refine hR63 _ _ _ ?_ | omega | (unfold maxLen; omega) | (simp; done) | (simp; omega))
  refine AW.wk [(0, AV.lst false false (List.map (AV.int .i64) v0)), (1, AV.lst false false (List.map (AV.int .i64) v1))] [] 0 (by simp) (by simp) (by simp) ?_
  refine AW.seqR mixed [] [none] (by kernel_rfl) fun G64 R64 hG64 hR64 => ?_
  try simp
  repeat' apply And.intro
  any_goals (first | exact hG64 _ (by kernel_rfl) | refine hR64 _ _ _ ?_ | omega | (unfold maxLen; omega) | (simp; done) | (simp; omega))
  refine AW.wk [(0, AV.lst false false (List.map (AV.int .i64) v0)), (1, AV.lst false false (List.map (AV.int .i64) v1)), (5, AV.lst true true (List.map (AV.int .i64) ([] : List Int)))] [] 0 (by simp) (by simp) (by simp) ?_
  refine AW.seq fun K94 hK94 => ?_
  refine AW.seqR mixed [] [none] (by kernel_rfl) fun G95 R95 hG95 hR95 => ?_
  try simp
  repeat' apply And.intro
  any_goals (first | exact hG95 _ (by kernel_rfl) | refine hR95 _ _ _ ?_ | omega | (unfold maxLen; omega) | (simp; done) | (simp; omega))
  refine AW.wk [(0, AV.lst false false (List.map (AV.int .i64) v0)), (1, AV.lst false false (List.map (AV.int .i64) v1)), (5, AV.lst true true (List.map (AV.int .i64) ([] : List Int))), (6, AV.int .i64 0)] [] 0 (by simp) (by simp) (by simp) ?_
  refine AW.block ?_
  refine AW.own' 5 1 true (by simp) (by decide) ?_
  refine AW.loopF (α := (Int × (List Int))) (fun n (v3, v4) => ref24_Minus.L1 k v0 v1 n v3 v4 = some v2) (fun (v3, v4) => [(0, AV.lst false false (List.map (AV.int .i64) v0)), (1, AV.lst false false (List.map (AV.int .i64) v1)), (5, AV.slc 0 0 1 v4.length false), (6, AV.int .i64 v3)]) (fun (v3, v4) => [(0, .grow (List.map (AV.int .i64) v4))]) 1 k ((0, ([] : List Int))) hF (by simp) (by simp) (by simp) ?_
  rintro (_|n1) ⟨v3, v4⟩ hF K114 hK114
  · try dsimp only at hF
    rw [ref24_Minus.L1] at hF; cases hF
  try dsimp only at hF
  rw [ref24_Minus.L1] at hF
  refine AW.seq fun K116 hK116 => ?_
  refine AW.seqR mixed [] [none, none] (by kernel_rfl) fun G117 R117 hG117 hR117 => ?_
  try simp
  repeat' apply And.intro
  any_goals (first | exact hG117 _ (by kernel_rfl) | refine hR117 _ _ _ ?_ | omega | (unfold maxLen; omega) | (simp; done) | (simp; omega))
  refine AW.wk [(0, AV.lst false false (List.map (AV.int .i64) v0)), (1, AV.lst false false (List.map (AV.int .i64) v1)), (5, AV.slc 0 0 1 v4.length false), (6, AV.int .i64 v3), (8, AV.bool (decide (v3 < 64)))] [(0, .grow (List.map (AV.int .i64) v4))] 1 (by simp) (by simp) (by simp) ?_
  by_cases h1 : v3 < 64
  · replace hF := ite_t h1 hF
    have h1_ := h1
    try simp at h1_
    refine AW.condT (by decide) (by first | (simp [h1, h1_]; done) | (simp [h1, h1_]; omega)) ?_
    refine AW.skip ?_
    refine hK116 _ _ _ ?_
    refine AW.midF (α := (List Int)) (fun v5 => ref24_Minus.J2 k v3 (fun v3_ v4_ => ref24_Minus.L1 k v0 v1 n1 v3_ v4_) v5 = some v2) (fun v5 => [(0, AV.lst false false (List.map (AV.int .i64) v0)), (1, AV.lst false false (List.map (AV.int .i64) v1)), (5, AV.slc 0 0 1 v5.length false), (6, AV.int .i64 v3)]) (fun v5 => [(0, .grow (List.map (AV.int .i64) v5))]) 1 (fun K121 hK121 => ?_) ?_
    · refine AW.block ?_
      refine AW.seqR mixed [] [none, none, none, none, some (14, true), some (14, true), some (14, true), some (14, true), none] (by kernel_rfl) fun G122 R122 hG122 hR122 => ?_
      try simp [h1, h1_]
      repeat' apply And.intro
      try any_goals (first | omega | (unfold maxLen; omega) | (simp [h1, h1_]; done))
      obtain ⟨v6, h2, hF⟩ := bnd1_elim hF
      refine aCall_l (w_ref24_Has k _ _ _ h2) (by simp) [] [] [] rfl (.cons (.same (by simp [h1, h1_])) (.cons (.same (by simp [h1, h1_])) .nil)) (by simp [h1, h1_]) (by decide) (by simp) (by simp) (.inl rfl) (by simp) (by simp) ?_
      by_cases h3 : v6 = true
      · replace hF := ite_t h3 hF
        have h3_ := h3
        try simp at h3_
        try simp [h1, h1_, h3, h3_]
        repeat' apply And.intro
        try any_goals (first | omega | (unfold maxLen; omega) | (simp [h1, h1_, h3, h3_]; done))
        obtain ⟨v7, h4, hF⟩ := bnd1_elim hF
        refine aCall_l (w_ref24_Has k _ _ _ h4) (by simp) [] [] [] rfl (.cons (.same (by simp [h1, h1_, h3, h3_])) (.cons (.same (by simp [h1, h1_, h3, h3_])) .nil)) (by simp [h1, h1_, h3, h3_]) (by decide) (by simp) (by simp) (.inl rfl) (by simp) (by simp) ?_
        try simp [h1, h1_, h3, h3_]
        repeat' apply And.intro
        any_goals (first | exact hG122 _ (by kernel_rfl) | refine hR122 _ _ _ ?_ | omega | (unfold maxLen; omega) | (simp [h1, h1_, h3, h3_]; done) | (simp [h1, h1_, h3, h3_]; omega))
        refine AW.wk [(0, AV.lst false false (List.map (AV.int .i64) v0)), (1, AV.lst false false (List.map (AV.int .i64) v1)), (5, AV.slc 0 0 1 v4.length false), (6, AV.int .i64 v3), (19, AV.bool (!v7))] [(0, .grow (List.map (AV.int .i64) v4))] 1 (by simp [h1, h1_, h3, h3_]) (by simp [h1, h1_, h3, h3_]) (by simp) ?_
        by_cases h5 : (!v7) = true
        · replace hF := ite_t h5 hF
          have h5_ := h5
          try simp at h5_
          refine AW.condT (by decide) (by first | (simp [h1, h1_, h3, h3_, h5, h5_]; done) | (simp [h1, h1_, h3, h3_, h5, h5_]; omega)) ?_
          refine AW.region mixed [] [none, none, none, none, none] (by kernel_rfl) fun G123 R123 hG123 hR123 => ?_
          obtain ⟨h6, hF⟩ := chk_elim hF
          have h6_ := h6
          try simp at h6_
          try simp [h1, h1_, h3, h3_, h5, h5_, h6]
          repeat' apply And.intro
          any_goals (first | exact hG123 _ (by kernel_rfl) | refine hR123 _ _ _ ?_ | omega | (unfold maxLen; omega) | (simp [h1, h1_, h3, h3_, h5, h5_, h6]; done) | (simp [h1, h1_, h3, h3_, h5, h5_, h6]; omega))
          refine hK121 _ _ _ ?_
          refine Can.weak [(0, AV.lst false false (List.map (AV.int .i64) v0)), (1, AV.lst false false (List.map (AV.int .i64) v1)), (5, AV.slc 1 0 1 ((v4 ++ ([v3] : List Int)).length) false), (6, AV.int .i64 v3)] [(1, .grow (List.map (AV.int .i64) (v4 ++ ([v3] : List Int))))] 2 (by simp [h1, h1_, h3, h3_, h5, h5_, h6]) (by simp [h1, h1_, h3, h3_, h5, h5_, h6]) (by simp) ?_
          refine Can.ren (m := 0) h0 [(0, 1)] [(0, AV.lst false false (List.map (AV.int .i64) v0)), (1, AV.lst false false (List.map (AV.int .i64) v1)), (5, AV.slc 0 0 1 ((v4 ++ ([v3] : List Int)).length) false), (6, AV.int .i64 v3)] [(0, .grow (List.map (AV.int .i64) (v4 ++ ([v3] : List Int))))] 1 (by decide) (by decide) (by decide) rfl (by simp [h1, h1_, h3, h3_, h5, h5_, h6]) (by simp [h1, h1_, h3, h3_, h5, h5_, h6]) ?_
          exact Can.join (v4 ++ ([v3] : List Int)) hF (by simp [h1, h1_, h3, h3_, h5, h5_, h6]) (by simp [h1, h1_, h3, h3_, h5, h5_, h6]) (by simp)
        · replace hF := ite_f h5 hF
          have h5_ := h5
          try simp at h5_
          refine AW.condF (by decide) (by first | (simp [h1, h1_, h3, h3_, h5, h5_]; done) | (simp [h1, h1_, h3, h3_, h5, h5_]; omega)) ?_
          refine AW.skip ?_
          refine hK121 _ _ _ ?_
          exact Can.join (v4) hF (by simp [h1, h1_, h3, h3_, h5, h5_]) (by simp [h1, h1_, h3, h3_, h5, h5_]) (by simp)
      · replace hF := ite_f h3 hF
        have h3_ := h3
        try simp at h3_
        try simp [h1, h1_, h3, h3_]
        repeat' apply And.intro
        any_goals (first | exact hG122 _ (by kernel_rfl) | refine hR122 _ _ _ ?_ | omega | (unfold maxLen; omega) | (simp [h1, h1_, h3, h3_]; done) | (simp [h1, h1_, h3, h3_]; omega))
        refine AW.wk [(0, AV.lst false false (List.map (AV.int .i64) v0)), (1, AV.lst false false (List.map (AV.int .i64) v1)), (5, AV.slc 0 0 1 v4.length false), (6, AV.int .i64 v3), (19, AV.bool false)] [(0, .grow (List.map (AV.int .i64) v4))] 1 (by simp [h1, h1_, h3, h3_]) (by simp [h1, h1_, h3, h3_]) (by simp) ?_
        refine AW.condF (by decide) (by simp [h1, h1_, h3, h3_]) ?_
        refine AW.skip ?_
        refine hK121 _ _ _ ?_
        exact Can.join (v4) hF (by simp [h1, h1_, h3, h3_]) (by simp [h1, h1_, h3, h3_]) (by simp)
    · rintro v5 hF
      try dsimp only at hF
      unfold ref24_Minus.J2 at hF
      refine AW.region mixed [] [none, none, none] (by kernel_rfl) fun G120 R120 hG120 hR120 => ?_
      try simp [h1, h1_]
      repeat' apply And.intro
      any_goals (first | exact hG120 _ (by kernel_rfl) | refine hR120 _ _ _ ?_ | omega | (unfold maxLen; omega) | (simp [h1, h1_]; done) | (simp [h1, h1_]; omega))
      refine hK114 _ _ _ ?_
      refine Can.weak [(0, AV.lst false false (List.map (AV.int .i64) v0)), (1, AV.lst false false (List.map (AV.int .i64) v1)), (5, AV.slc 0 0 1 v5.length false), (6, AV.int .i64 (IntKind.wrap .i64 (v3 + 1)))] [(0, .grow (List.map (AV.int .i64) v5))] 1 (by simp [h1, h1_]) (by simp [h1, h1_]) (by simp) ?_
      exact Can.next (k' := n1) ((IntKind.wrap .i64 (v3 + 1), v5)) (by omega) hF (by simp [h1, h1_]) (by simp [h1, h1_]) (by simp)
  · replace hF := ite_f h1 hF
    have h1_ := h1
    try simp at h1_
    refine AW.condF (by decide) (by first | (simp [h1, h1_]; done) | (simp [h1, h1_]; omega)) ?_
    refine AW.exit ?_
    try simp
    refine hK94 _ _ _ ?_
    refine AW.seqR mixed [] [none, none] (by kernel_rfl) fun G124 R124 hG124 hR124 => ?_
    try simp [h1, h1_]
    repeat' apply And.intro
    any_goals (first | exact hG124 _ (by kernel_rfl) | refine hR124 _ _ _ ?_ | omega | (unfold maxLen; omega) | (simp [h1, h1_]; done) | (simp [h1, h1_]; omega))
    refine AW.wk [(4, AV.slc 0 0 1 v4.length false)] [(0, .grow (List.map (AV.int .i64) v4))] 1 (by simp [h1, h1_]) (by simp [h1, h1_]) (by simp) ?_
    simp only [Option.some.injEq] at hF
    subst hF
    refine AW.ret (hQ _ _ _ ?_ (matchO_0 ?_)).1
    · simp [Try.f72, h1, h1_]
    · simp [h1, h1_]
set_option maxHeartbeats 4000000 in
theorem w_law34_guard (k : Nat) (v0 : (List Int)) (v1 : Int) (v2 : Int) (v3 : Int) (v4 : (List Int)) (v5 : Int) (hF : law34_guard k v0 v1 = some (v2, v3, v4, v5)) :
    FCall Try.prog 38 [AV.ptr 0 0] [.cells [AV.lst false false (List.map (AV.int .i64) v0), AV.int .i64 v1]] (AV.agg [AV.int .i64 v2, AV.int .i64 v3, AV.lst false false (List.map (AV.int .i64) v4)]) [some (.cells [AV.lst false false (List.map (AV.int .i64) v0), AV.int .i64 v5])] := by
  unfold law34_guard at hF
  refine FCall.enter Try.func38 rfl (by simp) (by decide) (by simp) (by simp) (by simp) (by simp) (by simp) ?_
  intro c0 w0 Q h0 hQ
  refine AW.wk [(0, AV.ptr 0 0)] [(0, .cells [AV.lst false false (List.map (AV.int .i64) v0), AV.int .i64 v1])] 1 (by simp) (by simp) (by simp) ?_
  refine AW.seqR mixed [] [none] (by kernel_rfl) fun G29 R29 hG29 hR29 => ?_
  try simp
  repeat' apply And.intro
  any_goals (first | exact hG29 _ (by kernel_rfl) | refine hR29 _ _ _ ?_ | omega | (unfold maxLen; omega) | (simp; done) | (simp; omega))
  refine AW.wk [(0, AV.ptr 0 0), (2, AV.ptr 1 0)] [(0, .cells [AV.lst false false (List.map (AV.int .i64) v0), AV.int .i64 v1]), (1, .cells [AV.int .i64 0, AV.int .i64 0, AV.lst true true (List.map (AV.int .i64) ([] : List Int))])] 2 (by simp) (by simp) (by simp) ?_
  refine AW.seqR mixed [] [none, none, none, none, none, none, none] (by kernel_rfl) fun G30 R30 hG30 hR30 => ?_
  try simp
  repeat' apply And.intro
  try any_goals (first | omega | (unfold maxLen; omega) | (simp; done))
  obtain ⟨v6, v7, h1, hF⟩ := bnd2_elim hF
  refine aCall_l (w_made_Dice_Next k _ _ _ _ _ h1) (by simp) [0] [] [0] rfl (.cons (.same (by simp)) (.cons (.same (by simp)) .nil)) (by simp) (by decide) (by simp) (by simp) (.inl rfl) (by simp) (by simp) ?_
  try simp
  repeat' apply And.intro
  try any_goals (first | omega | (unfold maxLen; omega) | (simp; done))
  obtain ⟨v8, v9, h2, hF⟩ := bnd2_elim hF
  refine aCall_l (w_mill_Keys k _ _ _ _ _ h2) (by simp) [0] [] [0] rfl (.cons (.same (by simp)) (.cons (.same (by simp)) .nil)) (by simp) (by decide) (by simp) (by simp) (.inl rfl) (by simp) (by simp) ?_
  try simp
  repeat' apply And.intro
  any_goals (first | exact hG30 _ (by kernel_rfl) | refine hR30 _ _ _ ?_ | omega | (unfold maxLen; omega) | (simp; done) | (simp; omega))
  refine AW.wk [(0, AV.ptr 0 0), (2, AV.ptr 1 0), (3, AV.ptr 2 0)] [(0, .cells [AV.lst false false (List.map (AV.int .i64) v0), AV.int .i64 v9]), (1, .cells [AV.int .i64 0, AV.int .i64 0, AV.lst true true (List.map (AV.int .i64) ([] : List Int))]), (2, .cells [AV.int .i64 v6, AV.int .i64 0, AV.lst false false (List.map (AV.int .i64) v8)])] 3 (by simp) (by simp) (by simp) ?_
  refine AW.seqR mixed [] [none, none, none, none, none, none, none, none] (by kernel_rfl) fun G31 R31 hG31 hR31 => ?_
  try simp
  repeat' apply And.intro
  try any_goals (first | omega | (unfold maxLen; omega) | (simp; done))
  obtain ⟨v10, h3, hF⟩ := bnd1_elim hF
  refine aCall_l (w_ref24_Minus k _ _ _ h3) (by simp) [] [] [] rfl (.cons (.same (by simp)) (.cons (Coe.fl (by simp)) .nil)) (by simp) (by decide) (by simp) (by simp) (.inl rfl) (by simp) (by simp) ?_
  try simp
  repeat' apply And.intro
  any_goals (first | exact hG31 _ (by kernel_rfl) | refine hR31 _ _ _ ?_ | omega | (unfold maxLen; omega) | (simp; done) | (simp; omega))
  refine AW.wk [(0, AV.ptr 0 0), (2, AV.ptr 1 0), (3, AV.ptr 2 0)] [(0, .cells [AV.lst false false (List.map (AV.int .i64) v0), AV.int .i64 v9]), (1, .cells [AV.int .i64 0, AV.int .i64 0, AV.lst true true (List.map (AV.int .i64) ([] : List Int))]), (2, .cells [AV.int .i64 v6, AV.int .i64 0, AV.slc 3 0 1 v10.length false]), (3, .grow (List.map (AV.int .i64) v10))] 4 (by simp) (by simp) (by simp) ?_
  refine AW.seqR mixed [] [none, none, none, none, none, none, none, none, none] (by kernel_rfl) fun G32 R32 hG32 hR32 => ?_
  obtain ⟨v11, h4, hF⟩ := let1_elim hF
  have h4_ := h4
  try simp at h4_
  try simp [h4, h4_]
  repeat' apply And.intro
  try any_goals (first | omega | (unfold maxLen; omega) | (simp [h4, h4_]; done))
  obtain ⟨v12, v13, h5, hF⟩ := bnd2_elim hF
  refine aCall_l (w_made_Dice_Next k _ _ _ _ _ h5) (by simp) [0] [] [0] rfl (.cons (.same (by simp [h4, h4_])) (.cons (.same (by simp [h4, h4_])) .nil)) (by simp [h4, h4_]) (by decide) (by simp) (by simp) (.inl rfl) (by simp) (by simp) ?_
  try simp [h4, h4_]
  repeat' apply And.intro
  any_goals (first | exact hG32 _ (by kernel_rfl) | refine hR32 _ _ _ ?_ | omega | (unfold maxLen; omega) | (simp [h4, h4_]; done) | (simp [h4, h4_]; omega))
  refine AW.wk [(0, AV.ptr 0 0), (2, AV.ptr 1 0), (3, AV.ptr 2 0)] [(0, .cells [AV.lst false false (List.map (AV.int .i64) v0), AV.int .i64 v13]), (1, .cells [AV.int .i64 0, AV.int .i64 0, AV.lst true true (List.map (AV.int .i64) ([] : List Int))]), (2, .cells [AV.int .i64 v6, AV.int .i64 (IntKind.wrap .i64 (1 + v12)), AV.slc 3 0 1 v10.length false]), (3, .grow (List.map (AV.int .i64) v10))] 4 (by simp [h4, h4_]) (by simp [h4, h4_]) (by simp) ?_
  refine AW.midF (α := (Int × Int × (List Int) × Int)) (fun (v14, v15, v16, v17) => law34_guard.J1 k v14 v15 v16 v17 = some (v2, v3, v4, v5)) (fun (v14, v15, v16, v17) => [(2, AV.ptr 1 0), (3, AV.ptr 2 0)]) (fun (v14, v15, v16, v17) => [(0, .cells [AV.lst false false (List.map (AV.int .i64) v0), AV.int .i64 v17]), (1, .cells [AV.int .i64 0, AV.int .i64 0, AV.lst true true (List.map (AV.int .i64) ([] : List Int))]), (2, .cells [AV.int .i64 v14, AV.int .i64 v15, AV.lst false false (List.map (AV.int .i64) v16)])]) 3 (fun K45 hK45 => ?_) ?_
  · refine AW.seqR mixed [] [none, none] (by kernel_rfl) fun G46 R46 hG46 hR46 => ?_
    try simp [h4, h4_]
    repeat' apply And.intro
    try any_goals (first | omega | (unfold maxLen; omega) | (simp [h4, h4_]; done))
    obtain ⟨v18, v19, h6, hF⟩ := bnd2_elim hF
    refine aCall_l (w_made_Dice_Next k _ _ _ _ _ h6) (by simp) [0] [] [0] rfl (.cons (.same (by simp [h4, h4_])) (.cons (.same (by simp [h4, h4_])) .nil)) (by simp [h4, h4_]) (by decide) (by simp) (by simp) (.inl rfl) (by simp) (by simp) ?_
    try simp [h4, h4_]
    repeat' apply And.intro
    any_goals (first | exact hG46 _ (by kernel_rfl) | refine hR46 _ _ _ ?_ | omega | (unfold maxLen; omega) | (simp [h4, h4_]; done) | (simp [h4, h4_]; omega))
    refine AW.wk [(0, AV.ptr 0 0), (2, AV.ptr 1 0), (3, AV.ptr 2 0), (25, AV.int .i64 v18)] [(0, .cells [AV.lst false false (List.map (AV.int .i64) v0), AV.int .i64 v19]), (1, .cells [AV.int .i64 0, AV.int .i64 0, AV.lst true true (List.map (AV.int .i64) ([] : List Int))]), (2, .cells [AV.int .i64 v6, AV.int .i64 (IntKind.wrap .i64 (1 + v12)), AV.slc 3 0 1 v10.length false]), (3, .grow (List.map (AV.int .i64) v10))] 4 (by simp [h4, h4_]) (by simp [h4, h4_]) (by simp) ?_
    refine AW.block ?_
    refine AW.seqR mixed [] [none, none] (by kernel_rfl) fun G47 R47 hG47 hR47 => ?_
    try simp [h4, h4_]
    repeat' apply And.intro
    any_goals (first | exact hG47 _ (by kernel_rfl) | refine hR47 _ _ _ ?_ | omega | (unfold maxLen; omega) | (simp [h4, h4_]; done) | (simp [h4, h4_]; omega))
    refine AW.wk [(0, AV.ptr 0 0), (2, AV.ptr 1 0), (3, AV.ptr 2 0), (25, AV.int .i64 v18), (26, AV.bool (v18 == 0))] [(0, .cells [AV.lst false false (List.map (AV.int .i64) v0), AV.int .i64 v19]), (1, .cells [AV.int .i64 0, AV.int .i64 0, AV.lst true true (List.map (AV.int .i64) ([] : List Int))]), (2, .cells [AV.int .i64 v6, AV.int .i64 (IntKind.wrap .i64 (1 + v12)), AV.slc 3 0 1 v10.length false]), (3, .grow (List.map (AV.int .i64) v10))] 4 (by simp [h4, h4_]) (by simp [h4, h4_]) (by simp) ?_
    by_cases h7 : v18 = 0
    · replace hF := ite_t h7 hF
      have h7q : v18 = 0 := h7
      have h7_ := eqb_t h7q
      have h7__ := neb_f h7q
      refine AW.condT (by decide) (by first | (simp [h4, h4_, h7_, h7__, h7q]; done) | (simp [h4, h4_, h7_, h7__, h7q]; omega)) ?_
      refine AW.region mixed [] [none, none, none, none, none] (by kernel_rfl) fun G48 R48 hG48 hR48 => ?_
      try simp [h4, h4_, h7_, h7__, h7q]
      repeat' apply And.intro
      try any_goals (first | omega | (unfold maxLen; omega) | (simp [h4, h4_, h7_, h7__, h7q]; done))
      obtain ⟨v20, v21, h8, hF⟩ := bnd2_elim hF
      refine aCall_l (w_made_Dice_Of k _ _ _ _ _ h8) (by simp) [0] [] [0] rfl (.cons (.same (by simp [h4, h4_, h7_, h7__, h7q])) (.cons (Coe.fl (by simp [h4, h4_, h7_, h7__, h7q])) .nil)) (by simp [h4, h4_, h7_, h7__, h7q]) (by decide) (by simp) (by simp) (.inl rfl) (by simp) (by simp) ?_
      try simp [h4, h4_, h7_, h7__, h7q]
      repeat' apply And.intro
      any_goals (first | exact hG48 _ (by kernel_rfl) | refine hR48 _ _ _ ?_ | omega | (unfold maxLen; omega) | (simp [h4, h4_, h7_, h7__, h7q]; done) | (simp [h4, h4_, h7_, h7__, h7q]; omega))
      refine hK45 _ _ _ ?_
      refine Can.weak [(2, AV.ptr 1 0), (3, AV.ptr 2 0)] [(0, .cells [AV.lst false false (List.map (AV.int .i64) v0), AV.int .i64 v21]), (1, .cells [AV.int .i64 0, AV.int .i64 0, AV.lst true true (List.map (AV.int .i64) ([] : List Int))]), (2, .cells [AV.int .i64 v6, AV.int .i64 v20, AV.slc 3 0 1 v10.length false]), (3, .grow (List.map (AV.int .i64) v10))] 4 (by simp [h4, h4_, h7_, h7__, h7q]) (by simp [h4, h4_, h7_, h7__, h7q]) (by simp) ?_
      refine Can.freeze 3 (o := .grow (List.map (AV.int .i64) v10)) (by simp [h4, h4_, h7_, h7__, h7q]) rfl [] [(2, .cells [AV.int .i64 v6, AV.int .i64 v20, AV.lst false false (List.map (AV.int .i64) v10)])] trivial ⟨⟨by simp, AObj.cells [AV.int .i64 v6, AV.int .i64 v20, AV.slc 3 0 1 v10.length false], by simp [h4, h4_, h7_, h7__, h7q], (.mk (.cons (.same _) (.cons (.same _) (.cons (.l (by simp) (by simp) (by simp) (by simp)) .nil))))⟩, trivial⟩ ?_
      refine Can.ren (m := 1) h0 [(0, 0), (1, 1), (2, 2)] [(2, AV.ptr 1 0), (3, AV.ptr 2 0)] [(0, .cells [AV.lst false false (List.map (AV.int .i64) v0), AV.int .i64 v21]), (1, .cells [AV.int .i64 0, AV.int .i64 0, AV.lst true true (List.map (AV.int .i64) ([] : List Int))]), (2, .cells [AV.int .i64 v6, AV.int .i64 v20, AV.lst false false (List.map (AV.int .i64) v10)])] 3 (by decide) (by decide) (by decide) rfl (by simp [h4, h4_, h7_, h7__, h7q]) (by simp [h4, h4_, h7_, h7__, h7q]) ?_
      exact Can.join ((v6, v20, v10, v21)) hF (by simp [h4, h4_, h7_, h7__, h7q]) (by simp [h4, h4_, h7_, h7__, h7q]) (by simp)
    · replace hF := ite_f h7 hF
      have h7_ := eqb_f h7
      have h7__ := neb_t h7
      refine AW.condF (by decide) (by first | (simp [h4, h4_, h7, h7_, h7__]; done) | (simp [h4, h4_, h7, h7_, h7__]; omega)) ?_
      refine AW.seqR mixed [] [none, none] (by kernel_rfl) fun G49 R49 hG49 hR49 => ?_
      try simp [h4, h4_, h7, h7_, h7__]
      repeat' apply And.intro
      any_goals (first | exact hG49 _ (by kernel_rfl) | refine hR49 _ _ _ ?_ | omega | (unfold maxLen; omega) | (simp [h4, h4_, h7, h7_, h7__]; done) | (simp [h4, h4_, h7, h7_, h7__]; omega))
      refine AW.wk [(0, AV.ptr 0 0), (2, AV.ptr 1 0), (3, AV.ptr 2 0), (25, AV.int .i64 v18), (32, AV.bool (v18 == 1))] [(0, .cells [AV.lst false false (List.map (AV.int .i64) v0), AV.int .i64 v19]), (1, .cells [AV.int .i64 0, AV.int .i64 0, AV.lst true true (List.map (AV.int .i64) ([] : List Int))]), (2, .cells [AV.int .i64 v6, AV.int .i64 (IntKind.wrap .i64 (1 + v12)), AV.slc 3 0 1 v10.length false]), (3, .grow (List.map (AV.int .i64) v10))] 4 (by simp [h4, h4_, h7, h7_, h7__]) (by simp [h4, h4_, h7, h7_, h7__]) (by simp) ?_
      by_cases h9 : v18 = 1
      · replace hF := ite_t h9 hF
        have h9q : v18 = 1 := h9
        have h9_ := eqb_t h9q
        have h9__ := neb_f h9q
        refine AW.condT (by decide) (by first | (simp [h4, h4_, h7, h7_, h7__, h9_, h9__, h9q]; done) | (simp [h4, h4_, h7, h7_, h7__, h9_, h9__, h9q]; omega)) ?_
        refine AW.region mixed [] [none, none, none, none, none, none, none, none] (by kernel_rfl) fun G50 R50 hG50 hR50 => ?_
        obtain ⟨h10, hF⟩ := chk_elim hF
        have h10_ := h10
        try simp at h10_
        try simp [h4, h4_, h7, h7_, h7__, h9_, h9__, h9q, h10]
        repeat' apply And.intro
        any_goals (first | exact hG50 _ (by kernel_rfl) | refine hR50 _ _ _ ?_ | omega | (unfold maxLen; omega) | (simp [h4, h4_, h7, h7_, h7__, h9_, h9__, h9q, h10]; done) | (simp [h4, h4_, h7, h7_, h7__, h9_, h9__, h9q, h10]; omega))
        refine hK45 _ _ _ ?_
        refine Can.weak [(2, AV.ptr 1 0), (3, AV.ptr 2 0)] [(0, .cells [AV.lst false false (List.map (AV.int .i64) v0), AV.int .i64 v19]), (1, .cells [AV.int .i64 0, AV.int .i64 0, AV.lst true true (List.map (AV.int .i64) ([] : List Int))]), (2, .cells [AV.int .i64 v6, AV.int .i64 (IntKind.wrap .i64 (1 + v12)), AV.slc 4 0 1 ((v10 ++ ([v6] : List Int)).length) false]), (4, .grow (List.map (AV.int .i64) (v10 ++ ([v6] : List Int))))] 5 (by simp [h4, h4_, h7, h7_, h7__, h9_, h9__, h9q, h10]) (by simp [h4, h4_, h7, h7_, h7__, h9_, h9__, h9q, h10]) (by simp) ?_
        refine Can.freeze 4 (o := .grow (List.map (AV.int .i64) (v10 ++ ([v6] : List Int)))) (by simp [h4, h4_, h7, h7_, h7__, h9_, h9__, h9q, h10]) rfl [] [(2, .cells [AV.int .i64 v6, AV.int .i64 (IntKind.wrap .i64 (1 + v12)), AV.lst false false (List.map (AV.int .i64) (v10 ++ ([v6] : List Int)))])] trivial ⟨⟨by simp, AObj.cells [AV.int .i64 v6, AV.int .i64 (IntKind.wrap .i64 (1 + v12)), AV.slc 4 0 1 ((v10 ++ ([v6] : List Int)).length) false], by simp [h4, h4_, h7, h7_, h7__, h9_, h9__, h9q, h10], (.mk (.cons (.same _) (.cons (.same _) (.cons (.l (by simp) (by simp) (by simp) (by simp)) .nil))))⟩, trivial⟩ ?_
        refine Can.ren (m := 1) h0 [(0, 0), (1, 1), (2, 2)] [(2, AV.ptr 1 0), (3, AV.ptr 2 0)] [(0, .cells [AV.lst false false (List.map (AV.int .i64) v0), AV.int .i64 v19]), (1, .cells [AV.int .i64 0, AV.int .i64 0, AV.lst true true (List.map (AV.int .i64) ([] : List Int))]), (2, .cells [AV.int .i64 v6, AV.int .i64 (IntKind.wrap .i64 (1 + v12)), AV.lst false false (List.map (AV.int .i64) (v10 ++ ([v6] : List Int)))])] 3 (by decide) (by decide) (by decide) rfl (by simp [h4, h4_, h7, h7_, h7__, h9_, h9__, h9q, h10]) (by simp [h4, h4_, h7, h7_, h7__, h9_, h9__, h9q, h10]) ?_
        exact Can.join ((v6, IntKind.wrap .i64 (1 + v12), v10 ++ ([v6] : List Int), v19)) hF (by simp [h4, h4_, h7, h7_, h7__, h9_, h9__, h9q, h10]) (by simp [h4, h4_, h7, h7_, h7__, h9_, h9__, h9q, h10]) (by simp)
      · replace hF := ite_f h9 hF
        have h9_ := eqb_f h9
        have h9__ := neb_t h9
        refine AW.condF (by decide) (by first | (simp [h4, h4_, h7, h7_, h7__, h9, h9_, h9__]; done) | (simp [h4, h4_, h7, h7_, h7__, h9, h9_, h9__]; omega)) ?_
        refine AW.seqR mixed [] [none, none] (by kernel_rfl) fun G51 R51 hG51 hR51 => ?_
        try simp [h4, h4_, h7, h7_, h7__, h9, h9_, h9__]
        repeat' apply And.intro
        any_goals (first | exact hG51 _ (by kernel_rfl) | refine hR51 _ _ _ ?_ | omega | (unfold maxLen; omega) | (simp [h4, h4_, h7, h7_, h7__, h9, h9_, h9__]; done) | (simp [h4, h4_, h7, h7_, h7__, h9, h9_, h9__]; omega))
        refine AW.wk [(0, AV.ptr 0 0), (2, AV.ptr 1 0), (3, AV.ptr 2 0), (25, AV.int .i64 v18), (41, AV.bool (v18 == 2))] [(0, .cells [AV.lst false false (List.map (AV.int .i64) v0), AV.int .i64 v19]), (1, .cells [AV.int .i64 0, AV.int .i64 0, AV.lst true true (List.map (AV.int .i64) ([] : List Int))]), (2, .cells [AV.int .i64 v6, AV.int .i64 (IntKind.wrap .i64 (1 + v12)), AV.slc 3 0 1 v10.length false]), (3, .grow (List.map (AV.int .i64) v10))] 4 (by simp [h4, h4_, h7, h7_, h7__, h9, h9_, h9__]) (by simp [h4, h4_, h7, h7_, h7__, h9, h9_, h9__]) (by simp) ?_
        by_cases h11 : v18 = 2
        · replace hF := ite_t h11 hF
          have h11q : v18 = 2 := h11
          have h11_ := eqb_t h11q
          have h11__ := neb_f h11q
          refine AW.condT (by decide) (by first | (simp [h4, h4_, h7, h7_, h7__, h9, h9_, h9__, h11_, h11__, h11q]; done) | (simp [h4, h4_, h7, h7_, h7__, h9, h9_, h9__, h11_, h11__, h11q]; omega)) ?_
          refine AW.region mixed [] [none, none, none, none, none] (by kernel_rfl) fun G52 R52 hG52 hR52 => ?_
          try simp [h4, h4_, h7, h7_, h7__, h9, h9_, h9__, h11_, h11__, h11q]
          repeat' apply And.intro
          try any_goals (first | omega | (unfold maxLen; omega) | (simp [h4, h4_, h7, h7_, h7__, h9, h9_, h9__, h11_, h11__, h11q]; done))
          obtain ⟨v22, v23, h12, hF⟩ := bnd2_elim hF
          refine aCall_l (w_made_Dice_Of k _ _ _ _ _ h12) (by simp) [0] [] [0] rfl (.cons (.same (by simp [h4, h4_, h7, h7_, h7__, h9, h9_, h9__, h11_, h11__, h11q])) (.cons (Coe.fl (by simp [h4, h4_, h7, h7_, h7__, h9, h9_, h9__, h11_, h11__, h11q])) .nil)) (by simp [h4, h4_, h7, h7_, h7__, h9, h9_, h9__, h11_, h11__, h11q]) (by decide) (by simp) (by simp) (.inl rfl) (by simp) (by simp) ?_
          try simp [h4, h4_, h7, h7_, h7__, h9, h9_, h9__, h11_, h11__, h11q]
          repeat' apply And.intro
          any_goals (first | exact hG52 _ (by kernel_rfl) | refine hR52 _ _ _ ?_ | omega | (unfold maxLen; omega) | (simp [h4, h4_, h7, h7_, h7__, h9, h9_, h9__, h11_, h11__, h11q]; done) | (simp [h4, h4_, h7, h7_, h7__, h9, h9_, h9__, h11_, h11__, h11q]; omega))
          refine hK45 _ _ _ ?_
          refine Can.weak [(2, AV.ptr 1 0), (3, AV.ptr 2 0)] [(0, .cells [AV.lst false false (List.map (AV.int .i64) v0), AV.int .i64 v23]), (1, .cells [AV.int .i64 0, AV.int .i64 0, AV.lst true true (List.map (AV.int .i64) ([] : List Int))]), (2, .cells [AV.int .i64 v22, AV.int .i64 (IntKind.wrap .i64 (1 + v12)), AV.slc 3 0 1 v10.length false]), (3, .grow (List.map (AV.int .i64) v10))] 4 (by simp [h4, h4_, h7, h7_, h7__, h9, h9_, h9__, h11_, h11__, h11q]) (by simp [h4, h4_, h7, h7_, h7__, h9, h9_, h9__, h11_, h11__, h11q]) (by simp) ?_
          refine Can.freeze 3 (o := .grow (List.map (AV.int .i64) v10)) (by simp [h4, h4_, h7, h7_, h7__, h9, h9_, h9__, h11_, h11__, h11q]) rfl [] [(2, .cells [AV.int .i64 v22, AV.int .i64 (IntKind.wrap .i64 (1 + v12)), AV.lst false false (List.map (AV.int .i64) v10)])] trivial ⟨⟨by simp, AObj.cells [AV.int .i64 v22, AV.int .i64 (IntKind.wrap .i64 (1 + v12)), AV.slc 3 0 1 v10.length false], by simp [h4, h4_, h7, h7_, h7__, h9, h9_, h9__, h11_, h11__, h11q], (.mk (.cons (.same _) (.cons (.same _) (.cons (.l (by simp) (by simp) (by simp) (by simp)) .nil))))⟩, trivial⟩ ?_
          refine Can.ren (m := 1) h0 [(0, 0), (1, 1), (2, 2)] [(2, AV.ptr 1 0), (3, AV.ptr 2 0)] [(0, .cells [AV.lst false false (List.map (AV.int .i64) v0), AV.int .i64 v23]), (1, .cells [AV.int .i64 0, AV.int .i64 0, AV.lst true true (List.map (AV.int .i64) ([] : List Int))]), (2, .cells [AV.int .i64 v22, AV.int .i64 (IntKind.wrap .i64 (1 + v12)), AV.lst false false (List.map (AV.int .i64) v10)])] 3 (by decide) (by decide) (by decide) rfl (by simp [h4, h4_, h7, h7_, h7__, h9, h9_, h9__, h11_, h11__, h11q]) (by simp [h4, h4_, h7, h7_, h7__, h9, h9_, h9__, h11_, h11__, h11q]) ?_
          exact Can.join ((v22, IntKind.wrap .i64 (1 + v12), v10, v23)) hF (by simp [h4, h4_, h7, h7_, h7__, h9, h9_, h9__, h11_, h11__, h11q]) (by simp [h4, h4_, h7, h7_, h7__, h9, h9_, h9__, h11_, h11__, h11q]) (by simp)
        · replace hF := ite_f h11 hF
          have h11_ := eqb_f h11
          have h11__ := neb_t h11
          refine AW.condF (by decide) (by first | (simp [h4, h4_, h7, h7_, h7__, h9, h9_, h9__, h11, h11_, h11__]; done) | (simp [h4, h4_, h7, h7_, h7__, h9, h9_, h9__, h11, h11_, h11__]; omega)) ?_
          refine AW.seqR mixed [] [none, none] (by kernel_rfl) fun G53 R53 hG53 hR53 => ?_
          try simp [h4, h4_, h7, h7_, h7__, h9, h9_, h9__, h11, h11_, h11__]
          repeat' apply And.intro
          any_goals (first | exact hG53 _ (by kernel_rfl) | refine hR53 _ _ _ ?_ | omega | (unfold maxLen; omega) | (simp [h4, h4_, h7, h7_, h7__, h9, h9_, h9__, h11, h11_, h11__]; done) | (simp [h4, h4_, h7, h7_, h7__, h9, h9_, h9__, h11, h11_, h11__]; omega))
          refine AW.wk [(0, AV.ptr 0 0), (2, AV.ptr 1 0), (3, AV.ptr 2 0), (25, AV.int .i64 v18), (47, AV.bool (v18 == 3))] [(0, .cells [AV.lst false false (List.map (AV.int .i64) v0), AV.int .i64 v19]), (1, .cells [AV.int .i64 0, AV.int .i64 0, AV.lst true true (List.map (AV.int .i64) ([] : List Int))]), (2, .cells [AV.int .i64 v6, AV.int .i64 (IntKind.wrap .i64 (1 + v12)), AV.slc 3 0 1 v10.length false]), (3, .grow (List.map (AV.int .i64) v10))] 4 (by simp [h4, h4_, h7, h7_, h7__, h9, h9_, h9__, h11, h11_, h11__]) (by simp [h4, h4_, h7, h7_, h7__, h9, h9_, h9__, h11, h11_, h11__]) (by simp) ?_
          by_cases h13 : v18 = 3
          · replace hF := ite_t h13 hF
            have h13q : v18 = 3 := h13
            have h13_ := eqb_t h13q
            have h13__ := neb_f h13q
            refine AW.condT (by decide) (by first | (simp [h4, h4_, h7, h7_, h7__, h9, h9_, h9__, h11, h11_, h11__, h13_, h13__, h13q]; done) | (simp [h4, h4_, h7, h7_, h7__, h9, h9_, h9__, h11, h11_, h11__, h13_, h13__, h13q]; omega)) ?_
            refine AW.region mixed [49] [none, none, none] (by kernel_rfl) fun G54 R54 hG54 hR54 => ?_
            try simp [h4, h4_, h7, h7_, h7__, h9, h9_, h9__, h11, h11_, h11__, h13_, h13__, h13q]
            repeat' apply And.intro
            any_goals (first | exact hG54 _ (by kernel_rfl) | refine hR54 _ _ _ ?_ | omega | (unfold maxLen; omega) | (simp [h4, h4_, h7, h7_, h7__, h9, h9_, h9__, h11, h11_, h11__, h13_, h13__, h13q]; done) | (simp [h4, h4_, h7, h7_, h7__, h9, h9_, h9__, h11, h11_, h11__, h13_, h13__, h13q]; omega))
            refine hK45 _ _ _ ?_
            refine Can.weak [(2, AV.ptr 1 0), (3, AV.ptr 2 0)] [(0, .cells [AV.lst false false (List.map (AV.int .i64) v0), AV.int .i64 v19]), (1, .cells [AV.int .i64 0, AV.int .i64 0, AV.lst true true (List.map (AV.int .i64) ([] : List Int))]), (2, .cells [AV.int .i64 v6, AV.int .i64 (IntKind.wrap .i64 (1 + v12)), AV.slc 4 0 1 (([5, 2] : List Int).length) true]), (4, .cells (List.map (AV.int .i64) ([5, 2] : List Int)))] 5 (by simp [h4, h4_, h7, h7_, h7__, h9, h9_, h9__, h11, h11_, h11__, h13_, h13__, h13q]) (by simp [h4, h4_, h7, h7_, h7__, h9, h9_, h9__, h11, h11_, h11__, h13_, h13__, h13q]) (by simp) ?_
            refine Can.freeze 4 (o := .cells (List.map (AV.int .i64) ([5, 2] : List Int))) (by simp [h4, h4_, h7, h7_, h7__, h9, h9_, h9__, h11, h11_, h11__, h13_, h13__, h13q]) rfl [] [(2, .cells [AV.int .i64 v6, AV.int .i64 (IntKind.wrap .i64 (1 + v12)), AV.lst false true (List.map (AV.int .i64) ([5, 2] : List Int))])] trivial ⟨⟨by simp, AObj.cells [AV.int .i64 v6, AV.int .i64 (IntKind.wrap .i64 (1 + v12)), AV.slc 4 0 1 (([5, 2] : List Int).length) true], by simp [h4, h4_, h7, h7_, h7__, h9, h9_, h9__, h11, h11_, h11__, h13_, h13__, h13q], (.mk (.cons (.same _) (.cons (.same _) (.cons (.l (by simp) (by simp) (by simp) (by simp)) .nil))))⟩, trivial⟩ ?_
            refine Can.ren (m := 1) h0 [(0, 0), (1, 1), (2, 2)] [(2, AV.ptr 1 0), (3, AV.ptr 2 0)] [(0, .cells [AV.lst false false (List.map (AV.int .i64) v0), AV.int .i64 v19]), (1, .cells [AV.int .i64 0, AV.int .i64 0, AV.lst true true (List.map (AV.int .i64) ([] : List Int))]), (2, .cells [AV.int .i64 v6, AV.int .i64 (IntKind.wrap .i64 (1 + v12)), AV.lst false true (List.map (AV.int .i64) ([5, 2] : List Int))])] 3 (by decide) (by decide) (by decide) rfl (by simp [h4, h4_, h7, h7_, h7__, h9, h9_, h9__, h11, h11_, h11__, h13_, h13__, h13q]) (by simp [h4, h4_, h7, h7_, h7__, h9, h9_, h9__, h11, h11_, h11__, h13_, h13__, h13q]) ?_
            refine Can.flg [] [(2, .cells [AV.int .i64 v6, AV.int .i64 (IntKind.wrap .i64 (1 + v12)), AV.lst false false (List.map (AV.int .i64) ([5, 2] : List Int))])] trivial ⟨⟨AObj.cells [AV.int .i64 v6, AV.int .i64 (IntKind.wrap .i64 (1 + v12)), AV.lst false true (List.map (AV.int .i64) ([5, 2] : List Int))], by simp [h4, h4_, h7, h7_, h7__, h9, h9_, h9__, h11, h11_, h11__, h13_, h13__, h13q], (.mk (.cons (.same _) (.cons (.same _) (.cons (.lst (by simp)) .nil))))⟩, trivial⟩ (by simp) ?_
            exact Can.join ((v6, IntKind.wrap .i64 (1 + v12), ([5, 2] : List Int), v19)) hF (by simp [h4, h4_, h7, h7_, h7__, h9, h9_, h9__, h11, h11_, h11__, h13_, h13__, h13q]) (by simp [h4, h4_, h7, h7_, h7__, h9, h9_, h9__, h11, h11_, h11__, h13_, h13__, h13q]) (by simp)
          · replace hF := ite_f h13 hF
            have h13_ := eqb_f h13
            have h13__ := neb_t h13
            refine AW.condF (by decide) (by first | (simp [h4, h4_, h7, h7_, h7__, h9, h9_, h9__, h11, h11_, h11__, h13, h13_, h13__]; done) | (simp [h4, h4_, h7, h7_, h7__, h9, h9_, h9__, h11, h11_, h11__, h13, h13_, h13__]; omega)) ?_
            refine AW.seqR mixed [] [none, none] (by kernel_rfl) fun G55 R55 hG55 hR55 => ?_
            try simp [h4, h4_, h7, h7_, h7__, h9, h9_, h9__, h11, h11_, h11__, h13, h13_, h13__]
            repeat' apply And.intro
            any_goals (first | exact hG55 _ (by kernel_rfl) | refine hR55 _ _ _ ?_ | omega | (unfold maxLen; omega) | (simp [h4, h4_, h7, h7_, h7__, h9, h9_, h9__, h11, h11_, h11__, h13, h13_, h13__]; done) | (simp [h4, h4_, h7, h7_, h7__, h9, h9_, h9__, h11, h11_, h11__, h13, h13_, h13__]; omega))
            refine AW.wk [(0, AV.ptr 0 0), (2, AV.ptr 1 0), (3, AV.ptr 2 0), (51, AV.bool (v18 == 4))] [(0, .cells [AV.lst false false (List.map (AV.int .i64) v0), AV.int .i64 v19]), (1, .cells [AV.int .i64 0, AV.int .i64 0, AV.lst true true (List.map (AV.int .i64) ([] : List Int))]), (2, .cells [AV.int .i64 v6, AV.int .i64 (IntKind.wrap .i64 (1 + v12)), AV.slc 3 0 1 v10.length false]), (3, .grow (List.map (AV.int .i64) v10))] 4 (by simp [h4, h4_, h7, h7_, h7__, h9, h9_, h9__, h11, h11_, h11__, h13, h13_, h13__]) (by simp [h4, h4_, h7, h7_, h7__, h9, h9_, h9__, h11, h11_, h11__, h13, h13_, h13__]) (by simp) ?_
            by_cases h14 : v18 = 4
            · replace hF := ite_t h14 hF
              have h14q : v18 = 4 := h14
              have h14_ := eqb_t h14q
              have h14__ := neb_f h14q
              refine AW.condT (by decide) (by first | (simp [h4, h4_, h7, h7_, h7__, h9, h9_, h9__, h11, h11_, h11__, h13, h13_, h13__, h14_, h14__, h14q]; done) | (simp [h4, h4_, h7, h7_, h7__, h9, h9_, h9__, h11, h11_, h11__, h13, h13_, h13__, h14_, h14__, h14q]; omega)) ?_
              refine AW.region mixed [] [none, none, none, none, none, none, none] (by kernel_rfl) fun G56 R56 hG56 hR56 => ?_
              try simp [h4, h4_, h7, h7_, h7__, h9, h9_, h9__, h11, h11_, h11__, h13, h13_, h13__, h14_, h14__, h14q]
              repeat' apply And.intro
              try any_goals (first | omega | (unfold maxLen; omega) | (simp [h4, h4_, h7, h7_, h7__, h9, h9_, h9__, h11, h11_, h11__, h13, h13_, h13__, h14_, h14__, h14q]; done))
              obtain ⟨v24, v25, h15, hF⟩ := bnd2_elim hF
              refine aCall_l (w_made_Dice_Next k _ _ _ _ _ h15) (by simp) [0] [] [0] rfl (.cons (.same (by simp [h4, h4_, h7, h7_, h7__, h9, h9_, h9__, h11, h11_, h11__, h13, h13_, h13__, h14_, h14__, h14q])) (.cons (.same (by simp [h4, h4_, h7, h7_, h7__, h9, h9_, h9__, h11, h11_, h11__, h13, h13_, h13__, h14_, h14__, h14q])) .nil)) (by simp [h4, h4_, h7, h7_, h7__, h9, h9_, h9__, h11, h11_, h11__, h13, h13_, h13__, h14_, h14__, h14q]) (by decide) (by simp) (by simp) (.inl rfl) (by simp) (by simp) ?_
              obtain ⟨⟨h16, h17⟩, hF⟩ := chk_elim hF
              have h16_ := h16
              try simp at h16_
              have h17_ := h17
              try simp at h17_
              try simp [h4, h4_, h7, h7_, h7__, h9, h9_, h9__, h11, h11_, h11__, h13, h13_, h13__, h14_, h14__, h14q, h16, h17, h16_, h17_]
              repeat' apply And.intro
              any_goals (first | exact hG56 _ (by kernel_rfl) | refine hR56 _ _ _ ?_ | omega | (unfold maxLen; omega) | (simp [h4, h4_, h7, h7_, h7__, h9, h9_, h9__, h11, h11_, h11__, h13, h13_, h13__, h14_, h14__, h14q, h16, h17, h16_, h17_]; done) | (simp [h4, h4_, h7, h7_, h7__, h9, h9_, h9__, h11, h11_, h11__, h13, h13_, h13__, h14_, h14__, h14q, h16, h17, h16_, h17_]; omega))
              refine hK45 _ _ _ ?_
              refine Can.weak [(2, AV.ptr 1 0), (3, AV.ptr 2 0)] [(0, .cells [AV.lst false false (List.map (AV.int .i64) v0), AV.int .i64 v25]), (1, .cells [AV.int .i64 0, AV.int .i64 0, AV.lst true true (List.map (AV.int .i64) ([] : List Int))]), (2, .cells [AV.int .i64 v6, AV.int .i64 (IntKind.wrap .i64 (1 + v12)), AV.lst false false (List.map (AV.int .i64) (([0, 1, 2, 3, 4, 5, 6, 7, 8, 9, 10, 11, 12] : List Int).take (IntKind.wrap .i64 (12 + v24)).toNat))])] 4 (by simp [h4, h4_, h7, h7_, h7__, h9, h9_, h9__, h11, h11_, h11__, h13, h13_, h13__, h14_, h14__, h14q, h16, h17, h16_, h17_]) (by simp [h4, h4_, h7, h7_, h7__, h9, h9_, h9__, h11, h11_, h11__, h13, h13_, h13__, h14_, h14__, h14q, h16, h17, h16_, h17_]) (by simp) ?_
              refine Can.ren (m := 1) h0 [(0, 0), (1, 1), (2, 2)] [(2, AV.ptr 1 0), (3, AV.ptr 2 0)] [(0, .cells [AV.lst false false (List.map (AV.int .i64) v0), AV.int .i64 v25]), (1, .cells [AV.int .i64 0, AV.int .i64 0, AV.lst true true (List.map (AV.int .i64) ([] : List Int))]), (2, .cells [AV.int .i64 v6, AV.int .i64 (IntKind.wrap .i64 (1 + v12)), AV.lst false false (List.map (AV.int .i64) (([0, 1, 2, 3, 4, 5, 6, 7, 8, 9, 10, 11, 12] : List Int).take (IntKind.wrap .i64 (12 + v24)).toNat))])] 3 (by decide) (by decide) (by decide) rfl (by simp [h4, h4_, h7, h7_, h7__, h9, h9_, h9__, h11, h11_, h11__, h13, h13_, h13__, h14_, h14__, h14q, h16, h17, h16_, h17_]) (by simp [h4, h4_, h7, h7_, h7__, h9, h9_, h9__, h11, h11_, h11__, h13, h13_, h13__, h14_, h14__, h14q, h16, h17, h16_, h17_]) ?_
              exact Can.join ((v6, IntKind.wrap .i64 (1 + v12), ([0, 1, 2, 3, 4, 5, 6, 7, 8, 9, 10, 11, 12] : List Int).take (IntKind.wrap .i64 (12 + v24)).toNat, v25)) hF (by simp [h4, h4_, h7, h7_, h7__, h9, h9_, h9__, h11, h11_, h11__, h13, h13_, h13__, h14_, h14__, h14q, h16, h17, h16_, h17_]) (by simp [h4, h4_, h7, h7_, h7__, h9, h9_, h9__, h11, h11_, h11__, h13, h13_, h13__, h14_, h14__, h14q, h16, h17, h16_, h17_]) (by simp)
            · replace hF := ite_f h14 hF
              have h14_ := eqb_f h14
              have h14__ := neb_t h14
              refine AW.condF (by decide) (by first | (simp [h4, h4_, h7, h7_, h7__, h9, h9_, h9__, h11, h11_, h11__, h13, h13_, h13__, h14, h14_, h14__]; done) | (simp [h4, h4_, h7, h7_, h7__, h9, h9_, h9__, h11, h11_, h11__, h13, h13_, h13__, h14, h14_, h14__]; omega)) ?_
              refine AW.skip ?_
              refine hK45 _ _ _ ?_
              refine Can.freeze 3 (o := .grow (List.map (AV.int .i64) v10)) (by simp [h4, h4_, h7, h7_, h7__, h9, h9_, h9__, h11, h11_, h11__, h13, h13_, h13__, h14, h14_, h14__]) rfl [] [(2, .cells [AV.int .i64 v6, AV.int .i64 (IntKind.wrap .i64 (1 + v12)), AV.lst false false (List.map (AV.int .i64) v10)])] trivial ⟨⟨by simp, AObj.cells [AV.int .i64 v6, AV.int .i64 (IntKind.wrap .i64 (1 + v12)), AV.slc 3 0 1 v10.length false], by simp [h4, h4_, h7, h7_, h7__, h9, h9_, h9__, h11, h11_, h11__, h13, h13_, h13__, h14, h14_, h14__], (.mk (.cons (.same _) (.cons (.same _) (.cons (.l (by simp) (by simp) (by simp) (by simp)) .nil))))⟩, trivial⟩ ?_
              refine Can.ren (m := 1) h0 [(0, 0), (1, 1), (2, 2)] [(2, AV.ptr 1 0), (3, AV.ptr 2 0)] [(0, .cells [AV.lst false false (List.map (AV.int .i64) v0), AV.int .i64 v19]), (1, .cells [AV.int .i64 0, AV.int .i64 0, AV.lst true true (List.map (AV.int .i64) ([] : List Int))]), (2, .cells [AV.int .i64 v6, AV.int .i64 (IntKind.wrap .i64 (1 + v12)), AV.lst false false (List.map (AV.int .i64) v10)])] 3 (by decide) (by decide) (by decide) rfl (by simp [h4, h4_, h7, h7_, h7__, h9, h9_, h9__, h11, h11_, h11__, h13, h13_, h13__, h14, h14_, h14__]) (by simp [h4, h4_, h7, h7_, h7__, h9, h9_, h9__, h11, h11_, h11__, h13, h13_, h13__, h14, h14_, h14__]) ?_
              exact Can.join ((v6, IntKind.wrap .i64 (1 + v12), v10, v19)) hF (by simp [h4, h4_, h7, h7_, h7__, h9, h9_, h9__, h11, h11_, h11__, h13, h13_, h13__, h14, h14_, h14__]) (by simp [h4, h4_, h7, h7_, h7__, h9, h9_, h9__, h11, h11_, h11__, h13, h13_, h13__, h14, h14_, h14__]) (by simp)
  · rintro ⟨v14, v15, v16, v17⟩ hF
    try dsimp only at hF
    unfold law34_guard.J1 at hF
    refine AW.seqR mixed [] [none, none] (by kernel_rfl) fun G44 R44 hG44 hR44 => ?_
    try simp [h4, h4_]
    repeat' apply And.intro
    any_goals (first | exact hG44 _ (by kernel_rfl) | refine hR44 _ _ _ ?_ | omega | (unfold maxLen; omega) | (simp [h4, h4_]; done) | (simp [h4, h4_]; omega))
    refine AW.wk [(2, AV.ptr 1 0)] [(0, .cells [AV.lst false false (List.map (AV.int .i64) v0), AV.int .i64 v17]), (1, .cells [AV.int .i64 v14, AV.int .i64 v15, AV.lst false false (List.map (AV.int .i64) v16)])] 3 (by simp [h4, h4_]) (by simp [h4, h4_]) (by simp) ?_
    simp only [Option.some.injEq, Prod.mk.injEq] at hF
    obtain ⟨e0, e1, e2, e3⟩ := hF
    subst e0 e1 e2 e3
    refine AW.ret (hQ _ _ _ ?_ (matchO_0 ?_)).1
    · simp [Try.f38, h4, h4_]
    · simp [h4, h4_]
end Go.TF
