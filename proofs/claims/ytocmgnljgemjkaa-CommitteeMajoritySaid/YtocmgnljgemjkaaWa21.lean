/- Walks: the Go text computes the Lean functions (printed by a program of our own). -/
import Derived.Test.YtocmgnljgemjkaaPu
import Derived.Test.YtocmgnljgemjkaaAbsT
import Derived.Test.YtocmgnljgemjkaaWa0
import Derived.Test.YtocmgnljgemjkaaWa14
import Derived.Test.YtocmgnljgemjkaaWa16
import Derived.Test.YtocmgnljgemjkaaWa19
set_option linter.unusedVariables false
set_option linter.unusedSimpArgs false
set_option maxRecDepth 100000
namespace Go.TF
open Go Go.Abs Go.Proofs Go.Proofs.YtocmgnljgemjkaaT
set_option maxHeartbeats 4000000 in
theorem w_law26_CommitteeMajority (k : Nat) (v0 : Int) (v1 : Int) (v2 : Int) (v3 : Bool) (hF : law26_CommitteeMajority k v0 v1 v2 = some v3) :
    FCall Try.prog 13 [AV.int .u8 v0, AV.int .u8 v1, AV.int .u8 v2] [] (AV.bool v3) [] := by
  unfold law26_CommitteeMajority at hF
  refine FCall.enter Try.func13 rfl (by simp) (by decide) (by simp) (by simp) (by simp) (by simp) (by simp) ?_
  intro c0 w0 Q h0 hQ
  refine AW.wk [(0, AV.int .u8 v0), (1, AV.int .u8 v1), (2, AV.int .u8 v2)] [] 0 (by simp) (by simp) (by simp) ?_
  refine AW.seqR mixed [] [none] (by kernel_rfl) fun G9 R9 hG9 hR9 => ?_
  try simp
  repeat' apply And.intro
  any_goals (first | exact hG9 _ (by kernel_rfl) | refine hR9 _ _ _ ?_ | omega | (unfold maxLen; omega) | (simp; done) | (simp; omega))
  refine AW.wk [(0, AV.int .u8 v0), (1, AV.int .u8 v1), (2, AV.int .u8 v2)] [] 0 (by simp) (by simp) (by simp) ?_
  refine AW.seqR mixed [] [none, none, none, none, none] (by kernel_rfl) fun G10 R10 hG10 hR10 => ?_
  try simp
  repeat' apply And.intro
  any_goals (first | exact hG10 _ (by kernel_rfl) | refine hR10 _ _ _ ?_ | omega | (unfold maxLen; omega) | (simp; done) | (simp; omega))
  refine AW.wk [(1, AV.int .u8 v1), (2, AV.int .u8 v2), (7, AV.int .i64 (IntKind.wrap .i64 (1 + Int.tmod (IntKind.wrap .i64 v0) 9)))] [] 0 (by simp) (by simp) (by simp) ?_
  refine AW.seqR mixed [] [none, none, none, none, none, none] (by kernel_rfl) fun G11 R11 hG11 hR11 => ?_
  obtain ⟨h1, hF⟩ := chk_elim hF
  have h1_ := h1
  try simp at h1_
  try simp [h1, h1_]
  repeat' apply And.intro
  any_goals (first | exact hG11 _ (by kernel_rfl) | refine hR11 _ _ _ ?_ | omega | (unfold maxLen; omega) | (simp [h1, h1_]; done) | (simp [h1, h1_]; omega))
  refine AW.wk [(2, AV.int .u8 v2), (7, AV.int .i64 (IntKind.wrap .i64 (1 + Int.tmod (IntKind.wrap .i64 v0) 9))), (8, AV.int .i64 (Int.tmod (IntKind.wrap .i64 v1) (IntKind.wrap .i64 (IntKind.wrap .i64 (1 + Int.tmod (IntKind.wrap .i64 v0) 9) + 1))))] [] 0 (by simp [h1, h1_]) (by simp [h1, h1_]) (by simp) ?_
  refine AW.seqR mixed [] [none, none, none, none] (by kernel_rfl) fun G12 R12 hG12 hR12 => ?_
  try simp [h1, h1_]
  repeat' apply And.intro
  any_goals (first | exact hG12 _ (by kernel_rfl) | refine hR12 _ _ _ ?_ | omega | (unfold maxLen; omega) | (simp [h1, h1_]; done) | (simp [h1, h1_]; omega))
  refine AW.wk [(2, AV.int .u8 v2), (7, AV.int .i64 (IntKind.wrap .i64 (1 + Int.tmod (IntKind.wrap .i64 v0) 9))), (8, AV.int .i64 (Int.tmod (IntKind.wrap .i64 v1) (IntKind.wrap .i64 (IntKind.wrap .i64 (1 + Int.tmod (IntKind.wrap .i64 v0) 9) + 1)))), (9, AV.int .i64 (IntKind.wrap .i64 (IntKind.wrap .i64 (1 + Int.tmod (IntKind.wrap .i64 v0) 9) - Int.tmod (IntKind.wrap .i64 v1) (IntKind.wrap .i64 (IntKind.wrap .i64 (1 + Int.tmod (IntKind.wrap .i64 v0) 9) + 1)))))] [] 0 (by simp [h1, h1_]) (by simp [h1, h1_]) (by simp) ?_
  refine AW.seqR mixed [] [none, none, none, none, none, none] (by kernel_rfl) fun G13 R13 hG13 hR13 => ?_
  obtain ⟨h2, hF⟩ := chk_elim hF
  have h2_ := h2
  try simp at h2_
  try simp [h1, h1_, h2, h2_]
  repeat' apply And.intro
  any_goals (first | exact hG13 _ (by kernel_rfl) | refine hR13 _ _ _ ?_ | omega | (unfold maxLen; omega) | (simp [h1, h1_, h2, h2_]; done) | (simp [h1, h1_, h2, h2_]; omega))
  refine AW.wk [(7, AV.int .i64 (IntKind.wrap .i64 (1 + Int.tmod (IntKind.wrap .i64 v0) 9))), (8, AV.int .i64 (Int.tmod (IntKind.wrap .i64 v1) (IntKind.wrap .i64 (IntKind.wrap .i64 (1 + Int.tmod (IntKind.wrap .i64 v0) 9) + 1)))), (9, AV.int .i64 (IntKind.wrap .i64 (IntKind.wrap .i64 (1 + Int.tmod (IntKind.wrap .i64 v0) 9) - Int.tmod (IntKind.wrap .i64 v1) (IntKind.wrap .i64 (IntKind.wrap .i64 (1 + Int.tmod (IntKind.wrap .i64 v0) 9) + 1))))), (10, AV.int .i64 (Int.tmod (IntKind.wrap .i64 v2) (IntKind.wrap .i64 (IntKind.wrap .i64 (IntKind.wrap .i64 (1 + Int.tmod (IntKind.wrap .i64 v0) 9) - Int.tmod (IntKind.wrap .i64 v1) (IntKind.wrap .i64 (IntKind.wrap .i64 (1 + Int.tmod (IntKind.wrap .i64 v0) 9) + 1))) + 1))))] [] 0 (by simp [h1, h1_, h2, h2_]) (by simp [h1, h1_, h2, h2_]) (by simp) ?_
  refine AW.midF (α := Bool) (fun v4 => law26_CommitteeMajority.J1 k v0 v1 v4 = some v3) (fun v4 => [(7, AV.int .i64 (IntKind.wrap .i64 (1 + Int.tmod (IntKind.wrap .i64 v0) 9))), (8, AV.int .i64 (Int.tmod (IntKind.wrap .i64 v1) (IntKind.wrap .i64 (IntKind.wrap .i64 (1 + Int.tmod (IntKind.wrap .i64 v0) 9) + 1)))), (11, AV.bool v4)]) (fun v4 => []) 0 (fun K16 hK16 => ?_) ?_
  · refine AW.region mixed [] [none, none, none, none, none, none, some (34, true), some (34, true), some (34, true), some (34, true), some (34, true), some (34, true), some (34, true), none, none] (by kernel_rfl) fun G14 R14 hG14 hR14 => ?_
    try simp [h1, h1_, h2, h2_]
    repeat' apply And.intro
    try any_goals (first | omega | (unfold maxLen; omega) | (simp [h1, h1_, h2, h2_]; done))
    obtain ⟨v13, h19, hF⟩ := bnd1_elim hF
    refine aCall_l (w_committee_Enough k _ _ _ h19) (by simp) [] [] [] rfl (.cons (.same (by simp [h1, h1_, h2, h2_])) (.cons (.same (by simp [h1, h1_, h2, h2_])) .nil)) (by simp [h1, h1_, h2, h2_]) (by decide) (by simp) (by simp) (.inl rfl) (by simp) (by simp) ?_
    by_cases h20 : v13 = true
    · replace hF := ite_t h20 hF
      have h20_ := h20
      try simp at h20_
      try simp [h1, h1_, h2, h2_, h20, h20_]
      repeat' apply And.intro
      try any_goals (first | omega | (unfold maxLen; omega) | (simp [h1, h1_, h2, h2_, h20, h20_]; done))
      obtain ⟨v14, h21, hF⟩ := bnd1_elim hF
      refine aCall_l (w_committee_Enough k _ _ _ h21) (by simp) [] [] [] rfl (.cons (.same (by simp [h1, h1_, h2, h2_, h20, h20_])) (.cons (.same (by simp [h1, h1_, h2, h2_, h20, h20_])) .nil)) (by simp [h1, h1_, h2, h2_, h20, h20_]) (by decide) (by simp) (by simp) (.inl rfl) (by simp) (by simp) ?_
      try simp [h1, h1_, h2, h2_, h20, h20_]
      repeat' apply And.intro
      any_goals (first | exact hG14 _ (by kernel_rfl) | refine hR14 _ _ _ ?_ | omega | (unfold maxLen; omega) | (simp [h1, h1_, h2, h2_, h20, h20_]; done) | (simp [h1, h1_, h2, h2_, h20, h20_]; omega))
      refine hK16 _ _ _ ?_
      refine Can.weak [(7, AV.int .i64 (IntKind.wrap .i64 (1 + Int.tmod (IntKind.wrap .i64 v0) 9))), (8, AV.int .i64 (Int.tmod (IntKind.wrap .i64 v1) (IntKind.wrap .i64 (IntKind.wrap .i64 (1 + Int.tmod (IntKind.wrap .i64 v0) 9) + 1)))), (11, AV.bool v14)] [] 0 (by simp [h1, h1_, h2, h2_, h20, h20_]) (by simp [h1, h1_, h2, h2_, h20, h20_]) (by simp) ?_
      exact Can.join (v14) hF (by simp [h1, h1_, h2, h2_, h20, h20_]) (by simp [h1, h1_, h2, h2_, h20, h20_]) (by simp)
    · replace hF := ite_f h20 hF
      have h20_ := h20
      try simp at h20_
      try simp [h1, h1_, h2, h2_, h20, h20_]
      repeat' apply And.intro
      any_goals (first | exact hG14 _ (by kernel_rfl) | refine hR14 _ _ _ ?_ | omega | (unfold maxLen; omega) | (simp [h1, h1_, h2, h2_, h20, h20_]; done) | (simp [h1, h1_, h2, h2_, h20, h20_]; omega))
      refine hK16 _ _ _ ?_
      refine Can.weak [(7, AV.int .i64 (IntKind.wrap .i64 (1 + Int.tmod (IntKind.wrap .i64 v0) 9))), (8, AV.int .i64 (Int.tmod (IntKind.wrap .i64 v1) (IntKind.wrap .i64 (IntKind.wrap .i64 (1 + Int.tmod (IntKind.wrap .i64 v0) 9) + 1)))), (11, AV.bool false)] [] 0 (by simp [h1, h1_, h2, h2_, h20, h20_]) (by simp [h1, h1_, h2, h2_, h20, h20_]) (by simp) ?_
      exact Can.join (false) hF (by simp [h1, h1_, h2, h2_, h20, h20_]) (by simp [h1, h1_, h2, h2_, h20, h20_]) (by simp)
  · rintro v4 hF
    try dsimp only at hF
    unfold law26_CommitteeMajority.J1 at hF
    refine AW.seqR mixed [] [none, none, none, some (45, false), some (45, false), some (45, false), some (45, false), none, none, some (51, true), some (51, true), some (51, true), none, none, some (56, true), some (56, true), some (56, true), none, none, some (61, true), some (61, true), some (61, true), some (61, true), some (61, true), none, none, some (68, true), none, none] (by kernel_rfl) fun G15 R15 hG15 hR15 => ?_
    by_cases h3 : (!v4) = true
    · replace hF := ite_t h3 hF
      have h3_ := h3
      try simp at h3_
      try simp [h1, h1_, h2, h2_, h3, h3_]
      repeat' apply And.intro
      try any_goals (first | omega | (unfold maxLen; omega) | (simp [h1, h1_, h2, h2_, h3, h3_]; done))
      obtain ⟨v5, h4, hF⟩ := bnd1_elim hF
      refine aCall_l (w_committee_Enough k _ _ _ h4) (by simp) [] [] [] rfl (.cons (.same (by simp [h1, h1_, h2, h2_, h3, h3_])) (.cons (.same (by simp [h1, h1_, h2, h2_, h3, h3_])) .nil)) (by simp [h1, h1_, h2, h2_, h3, h3_]) (by decide) (by simp) (by simp) (.inl rfl) (by simp) (by simp) ?_
      by_cases h5 : v5 = true
      · replace hF := ite_t h5 hF
        have h5_ := h5
        try simp at h5_
        try simp [h1, h1_, h2, h2_, h3, h3_, h5, h5_]
        repeat' apply And.intro
        try any_goals (first | omega | (unfold maxLen; omega) | (simp [h1, h1_, h2, h2_, h3, h3_, h5, h5_]; done))
        obtain ⟨v6, h6, hF⟩ := bnd1_elim hF
        refine aCall_l (w_committee_Enough k _ _ _ h6) (by simp) [] [] [] rfl (.cons (.same (by simp [h1, h1_, h2, h2_, h3, h3_, h5, h5_])) (.cons (.same (by simp [h1, h1_, h2, h2_, h3, h3_, h5, h5_])) .nil)) (by simp [h1, h1_, h2, h2_, h3, h3_, h5, h5_]) (by decide) (by simp) (by simp) (.inl rfl) (by simp) (by simp) ?_
        by_cases h7 : (!v6) = true
        · replace hF := ite_t h7 hF
          have h7_ := h7
          try simp at h7_
          try simp [h1, h1_, h2, h2_, h3, h3_, h5, h5_, h7, h7_]
          repeat' apply And.intro
          try any_goals (first | omega | (unfold maxLen; omega) | (simp [h1, h1_, h2, h2_, h3, h3_, h5, h5_, h7, h7_]; done))
          obtain ⟨v7, h8, hF⟩ := bnd1_elim hF
          refine aCall_l (w_committee_Enough k _ _ _ h8) (by simp) [] [] [] rfl (.cons (.same (by simp [h1, h1_, h2, h2_, h3, h3_, h5, h5_, h7, h7_])) (.cons (.same (by simp [h1, h1_, h2, h2_, h3, h3_, h5, h5_, h7, h7_])) .nil)) (by simp [h1, h1_, h2, h2_, h3, h3_, h5, h5_, h7, h7_]) (by decide) (by simp) (by simp) (.inl rfl) (by simp) (by simp) ?_
          by_cases h9 : (!v7) = true
          · replace hF := ite_t h9 hF
            have h9_ := h9
            try simp at h9_
            try simp [h1, h1_, h2, h2_, h3, h3_, h5, h5_, h7, h7_, h9, h9_]
            repeat' apply And.intro
            try any_goals (first | omega | (unfold maxLen; omega) | (simp [h1, h1_, h2, h2_, h3, h3_, h5, h5_, h7, h7_, h9, h9_]; done))
            obtain ⟨v8, h10, hF⟩ := bnd1_elim hF
            refine aCall_l (w_law26_awake k _ h10) (by simp) [] [] [] rfl .nil (by simp [h1, h1_, h2, h2_, h3, h3_, h5, h5_, h7, h7_, h9, h9_]) (by decide) (by simp) (by simp) (.inl rfl) (by simp) (by simp) ?_
            try simp [h1, h1_, h2, h2_, h3, h3_, h5, h5_, h7, h7_, h9, h9_]
            repeat' apply And.intro
            any_goals (first | exact hG15 _ (by kernel_rfl) | refine hR15 _ _ _ ?_ | omega | (unfold maxLen; omega) | (simp [h1, h1_, h2, h2_, h3, h3_, h5, h5_, h7, h7_, h9, h9_]; done) | (simp [h1, h1_, h2, h2_, h3, h3_, h5, h5_, h7, h7_, h9, h9_]; omega))
            refine AW.wk [(6, AV.bool v8)] [] 0 (by simp [h1, h1_, h2, h2_, h3, h3_, h5, h5_, h7, h7_, h9, h9_]) (by simp [h1, h1_, h2, h2_, h3, h3_, h5, h5_, h7, h7_, h9, h9_]) (by simp) ?_
            simp only [Option.some.injEq] at hF
            subst hF
            refine AW.ret (hQ _ _ _ ?_ (matchO_0 ?_)).1
            · simp [Try.f13, h1, h1_, h2, h2_, h3, h3_, h5, h5_, h7, h7_, h9, h9_]
            · simp [h1, h1_, h2, h2_, h3, h3_, h5, h5_, h7, h7_, h9, h9_]
          · replace hF := ite_f h9 hF
            have h9_ := h9
            try simp at h9_
            try simp [h1, h1_, h2, h2_, h3, h3_, h5, h5_, h7, h7_, h9, h9_]
            repeat' apply And.intro
            any_goals (first | exact hG15 _ (by kernel_rfl) | refine hR15 _ _ _ ?_ | omega | (unfold maxLen; omega) | (simp [h1, h1_, h2, h2_, h3, h3_, h5, h5_, h7, h7_, h9, h9_]; done) | (simp [h1, h1_, h2, h2_, h3, h3_, h5, h5_, h7, h7_, h9, h9_]; omega))
            refine AW.wk [(6, AV.bool false)] [] 0 (by simp [h1, h1_, h2, h2_, h3, h3_, h5, h5_, h7, h7_, h9, h9_]) (by simp [h1, h1_, h2, h2_, h3, h3_, h5, h5_, h7, h7_, h9, h9_]) (by simp) ?_
            simp only [Option.some.injEq] at hF
            subst hF
            refine AW.ret (hQ _ _ _ ?_ (matchO_0 ?_)).1
            · simp [Try.f13, h1, h1_, h2, h2_, h3, h3_, h5, h5_, h7, h7_, h9, h9_]
            · simp [h1, h1_, h2, h2_, h3, h3_, h5, h5_, h7, h7_, h9, h9_]
        · replace hF := ite_f h7 hF
          have h7_ := h7
          try simp at h7_
          try simp [h1, h1_, h2, h2_, h3, h3_, h5, h5_, h7, h7_]
          repeat' apply And.intro
          any_goals (first | exact hG15 _ (by kernel_rfl) | refine hR15 _ _ _ ?_ | omega | (unfold maxLen; omega) | (simp [h1, h1_, h2, h2_, h3, h3_, h5, h5_, h7, h7_]; done) | (simp [h1, h1_, h2, h2_, h3, h3_, h5, h5_, h7, h7_]; omega))
          refine AW.wk [(6, AV.bool false)] [] 0 (by simp [h1, h1_, h2, h2_, h3, h3_, h5, h5_, h7, h7_]) (by simp [h1, h1_, h2, h2_, h3, h3_, h5, h5_, h7, h7_]) (by simp) ?_
          simp only [Option.some.injEq] at hF
          subst hF
          refine AW.ret (hQ _ _ _ ?_ (matchO_0 ?_)).1
          · simp [Try.f13, h1, h1_, h2, h2_, h3, h3_, h5, h5_, h7, h7_]
          · simp [h1, h1_, h2, h2_, h3, h3_, h5, h5_, h7, h7_]
      · replace hF := ite_f h5 hF
        have h5_ := h5
        try simp at h5_
        try simp [h1, h1_, h2, h2_, h3, h3_, h5, h5_]
        repeat' apply And.intro
        any_goals (first | exact hG15 _ (by kernel_rfl) | refine hR15 _ _ _ ?_ | omega | (unfold maxLen; omega) | (simp [h1, h1_, h2, h2_, h3, h3_, h5, h5_]; done) | (simp [h1, h1_, h2, h2_, h3, h3_, h5, h5_]; omega))
        refine AW.wk [(6, AV.bool false)] [] 0 (by simp [h1, h1_, h2, h2_, h3, h3_, h5, h5_]) (by simp [h1, h1_, h2, h2_, h3, h3_, h5, h5_]) (by simp) ?_
        simp only [Option.some.injEq] at hF
        subst hF
        refine AW.ret (hQ _ _ _ ?_ (matchO_0 ?_)).1
        · simp [Try.f13, h1, h1_, h2, h2_, h3, h3_, h5, h5_]
        · simp [h1, h1_, h2, h2_, h3, h3_, h5, h5_]
    · replace hF := ite_f h3 hF
      have h3_ := h3
      try simp at h3_
      by_cases h11 : IntKind.wrap .i64 (1 + Int.tmod (IntKind.wrap .i64 v0) 9) < IntKind.wrap .i64 (2 * Int.tmod (IntKind.wrap .i64 v1) (IntKind.wrap .i64 (IntKind.wrap .i64 (1 + Int.tmod (IntKind.wrap .i64 v0) 9) + 1)))
      · replace hF := ite_t h11 hF
        have h11_ := h11
        try simp at h11_
        try simp [h1, h1_, h2, h2_, h3, h3_, h11, h11_]
        repeat' apply And.intro
        try any_goals (first | omega | (unfold maxLen; omega) | (simp [h1, h1_, h2, h2_, h3, h3_, h11, h11_]; done))
        obtain ⟨v9, h12, hF⟩ := bnd1_elim hF
        refine aCall_l (w_committee_Enough k _ _ _ h12) (by simp) [] [] [] rfl (.cons (.same (by simp [h1, h1_, h2, h2_, h3, h3_, h11, h11_])) (.cons (.same (by simp [h1, h1_, h2, h2_, h3, h3_, h11, h11_])) .nil)) (by simp [h1, h1_, h2, h2_, h3, h3_, h11, h11_]) (by decide) (by simp) (by simp) (.inl rfl) (by simp) (by simp) ?_
        by_cases h13 : v9 = true
        · replace hF := ite_t h13 hF
          have h13_ := h13
          try simp at h13_
          try simp [h1, h1_, h2, h2_, h3, h3_, h11, h11_, h13, h13_]
          repeat' apply And.intro
          try any_goals (first | omega | (unfold maxLen; omega) | (simp [h1, h1_, h2, h2_, h3, h3_, h11, h11_, h13, h13_]; done))
          obtain ⟨v10, h14, hF⟩ := bnd1_elim hF
          refine aCall_l (w_committee_Enough k _ _ _ h14) (by simp) [] [] [] rfl (.cons (.same (by simp [h1, h1_, h2, h2_, h3, h3_, h11, h11_, h13, h13_])) (.cons (.same (by simp [h1, h1_, h2, h2_, h3, h3_, h11, h11_, h13, h13_])) .nil)) (by simp [h1, h1_, h2, h2_, h3, h3_, h11, h11_, h13, h13_]) (by decide) (by simp) (by simp) (.inl rfl) (by simp) (by simp) ?_
          by_cases h15 : (!v10) = true
          · replace hF := ite_t h15 hF
            have h15_ := h15
            try simp at h15_
            try simp [h1, h1_, h2, h2_, h3, h3_, h11, h11_, h13, h13_, h15, h15_]
            repeat' apply And.intro
            try any_goals (first | omega | (unfold maxLen; omega) | (simp [h1, h1_, h2, h2_, h3, h3_, h11, h11_, h13, h13_, h15, h15_]; done))
            obtain ⟨v11, h16, hF⟩ := bnd1_elim hF
            refine aCall_l (w_committee_Enough k _ _ _ h16) (by simp) [] [] [] rfl (.cons (.same (by simp [h1, h1_, h2, h2_, h3, h3_, h11, h11_, h13, h13_, h15, h15_])) (.cons (.same (by simp [h1, h1_, h2, h2_, h3, h3_, h11, h11_, h13, h13_, h15, h15_])) .nil)) (by simp [h1, h1_, h2, h2_, h3, h3_, h11, h11_, h13, h13_, h15, h15_]) (by decide) (by simp) (by simp) (.inl rfl) (by simp) (by simp) ?_
            by_cases h17 : (!v11) = true
            · replace hF := ite_t h17 hF
              have h17_ := h17
              try simp at h17_
              try simp [h1, h1_, h2, h2_, h3, h3_, h11, h11_, h13, h13_, h15, h15_, h17, h17_]
              repeat' apply And.intro
              try any_goals (first | omega | (unfold maxLen; omega) | (simp [h1, h1_, h2, h2_, h3, h3_, h11, h11_, h13, h13_, h15, h15_, h17, h17_]; done))
              obtain ⟨v12, h18, hF⟩ := bnd1_elim hF
              refine aCall_l (w_law26_awake k _ h18) (by simp) [] [] [] rfl .nil (by simp [h1, h1_, h2, h2_, h3, h3_, h11, h11_, h13, h13_, h15, h15_, h17, h17_]) (by decide) (by simp) (by simp) (.inl rfl) (by simp) (by simp) ?_
              try simp [h1, h1_, h2, h2_, h3, h3_, h11, h11_, h13, h13_, h15, h15_, h17, h17_]
              repeat' apply And.intro
              any_goals (first | exact hG15 _ (by kernel_rfl) | refine hR15 _ _ _ ?_ | omega | (unfold maxLen; omega) | (simp [h1, h1_, h2, h2_, h3, h3_, h11, h11_, h13, h13_, h15, h15_, h17, h17_]; done) | (simp [h1, h1_, h2, h2_, h3, h3_, h11, h11_, h13, h13_, h15, h15_, h17, h17_]; omega))
              refine AW.wk [(6, AV.bool v12)] [] 0 (by simp [h1, h1_, h2, h2_, h3, h3_, h11, h11_, h13, h13_, h15, h15_, h17, h17_]) (by simp [h1, h1_, h2, h2_, h3, h3_, h11, h11_, h13, h13_, h15, h15_, h17, h17_]) (by simp) ?_
              simp only [Option.some.injEq] at hF
              subst hF
              refine AW.ret (hQ _ _ _ ?_ (matchO_0 ?_)).1
              · simp [Try.f13, h1, h1_, h2, h2_, h3, h3_, h11, h11_, h13, h13_, h15, h15_, h17, h17_]
              · simp [h1, h1_, h2, h2_, h3, h3_, h11, h11_, h13, h13_, h15, h15_, h17, h17_]
            · replace hF := ite_f h17 hF
              have h17_ := h17
              try simp at h17_
              try simp [h1, h1_, h2, h2_, h3, h3_, h11, h11_, h13, h13_, h15, h15_, h17, h17_]
              repeat' apply And.intro
              any_goals (first | exact hG15 _ (by kernel_rfl) | refine hR15 _ _ _ ?_ | omega | (unfold maxLen; omega) | (simp [h1, h1_, h2, h2_, h3, h3_, h11, h11_, h13, h13_, h15, h15_, h17, h17_]; done) | (simp [h1, h1_, h2, h2_, h3, h3_, h11, h11_, h13, h13_, h15, h15_, h17, h17_]; omega))
              refine AW.wk [(6, AV.bool false)] [] 0 (by simp [h1, h1_, h2, h2_, h3, h3_, h11, h11_, h13, h13_, h15, h15_, h17, h17_]) (by simp [h1, h1_, h2, h2_, h3, h3_, h11, h11_, h13, h13_, h15, h15_, h17, h17_]) (by simp) ?_
              simp only [Option.some.injEq] at hF
              subst hF
              refine AW.ret (hQ _ _ _ ?_ (matchO_0 ?_)).1
              · simp [Try.f13, h1, h1_, h2, h2_, h3, h3_, h11, h11_, h13, h13_, h15, h15_, h17, h17_]
              · simp [h1, h1_, h2, h2_, h3, h3_, h11, h11_, h13, h13_, h15, h15_, h17, h17_]
          · replace hF := ite_f h15 hF
            have h15_ := h15
            try simp at h15_
            try simp [h1, h1_, h2, h2_, h3, h3_, h11, h11_, h13, h13_, h15, h15_]
            repeat' apply And.intro
            any_goals (first | exact hG15 _ (by kernel_rfl) | refine hR15 _ _ _ ?_ | omega | (unfold maxLen; omega) | (simp [h1, h1_, h2, h2_, h3, h3_, h11, h11_, h13, h13_, h15, h15_]; done) | (simp [h1, h1_, h2, h2_, h3, h3_, h11, h11_, h13, h13_, h15, h15_]; omega))
            refine AW.wk [(6, AV.bool false)] [] 0 (by simp [h1, h1_, h2, h2_, h3, h3_, h11, h11_, h13, h13_, h15, h15_]) (by simp [h1, h1_, h2, h2_, h3, h3_, h11, h11_, h13, h13_, h15, h15_]) (by simp) ?_
            simp only [Option.some.injEq] at hF
            subst hF
            refine AW.ret (hQ _ _ _ ?_ (matchO_0 ?_)).1
            · simp [Try.f13, h1, h1_, h2, h2_, h3, h3_, h11, h11_, h13, h13_, h15, h15_]
            · simp [h1, h1_, h2, h2_, h3, h3_, h11, h11_, h13, h13_, h15, h15_]
        · replace hF := ite_f h13 hF
          have h13_ := h13
          try simp at h13_
          try simp [h1, h1_, h2, h2_, h3, h3_, h11, h11_, h13, h13_]
          repeat' apply And.intro
          any_goals (first | exact hG15 _ (by kernel_rfl) | refine hR15 _ _ _ ?_ | omega | (unfold maxLen; omega) | (simp [h1, h1_, h2, h2_, h3, h3_, h11, h11_, h13, h13_]; done) | (simp [h1, h1_, h2, h2_, h3, h3_, h11, h11_, h13, h13_]; omega))
          refine AW.wk [(6, AV.bool false)] [] 0 (by simp [h1, h1_, h2, h2_, h3, h3_, h11, h11_, h13, h13_]) (by simp [h1, h1_, h2, h2_, h3, h3_, h11, h11_, h13, h13_]) (by simp) ?_
          simp only [Option.some.injEq] at hF
          subst hF
          refine AW.ret (hQ _ _ _ ?_ (matchO_0 ?_)).1
          · simp [Try.f13, h1, h1_, h2, h2_, h3, h3_, h11, h11_, h13, h13_]
          · simp [h1, h1_, h2, h2_, h3, h3_, h11, h11_, h13, h13_]
      · replace hF := ite_f h11 hF
        have h11_ := h11
        try simp at h11_
        try simp [h1, h1_, h2, h2_, h3, h3_, h11, h11_]
        repeat' apply And.intro
        any_goals (first | exact hG15 _ (by kernel_rfl) | refine hR15 _ _ _ ?_ | omega | (unfold maxLen; omega) | (simp [h1, h1_, h2, h2_, h3, h3_, h11, h11_]; done) | (simp [h1, h1_, h2, h2_, h3, h3_, h11, h11_]; omega))
        refine AW.wk [(6, AV.bool false)] [] 0 (by simp [h1, h1_, h2, h2_, h3, h3_, h11, h11_]) (by simp [h1, h1_, h2, h2_, h3, h3_, h11, h11_]) (by simp) ?_
        simp only [Option.some.injEq] at hF
        subst hF
        refine AW.ret (hQ _ _ _ ?_ (matchO_0 ?_)).1
        · simp [Try.f13, h1, h1_, h2, h2_, h3, h3_, h11, h11_]
        · simp [h1, h1_, h2, h2_, h3, h3_, h11, h11_]
set_option maxHeartbeats 4000000 in
theorem w_digest_rounds (k : Nat) (v0 : (List Int)) (hF : digest_rounds k = some v0) :
    FCall Try.prog 88 [] [] (AV.agg (List.map (AV.int .u32) v0)) [] := by
  unfold digest_rounds at hF
  refine FCall.enter Try.func88 rfl (by simp) (by decide) (by simp) (by simp) (by simp) (by simp) (by simp) ?_
  intro c0 w0 Q h0 hQ
  refine AW.wk [] [] 0 (by simp) (by simp) (by simp) ?_
  refine AW.seqR mixed [] [none] (by kernel_rfl) fun G3 R3 hG3 hR3 => ?_
  try simp
  repeat' apply And.intro
  any_goals (first | exact hG3 _ (by kernel_rfl) | refine hR3 _ _ _ ?_ | omega | (unfold maxLen; omega) | (simp; done) | (simp; omega))
  refine AW.wk [(0, AV.ptr 0 0)] [(0, .cells (List.map (AV.int .u32) (List.replicate 64 0)))] 1 (by simp) (by simp) (by simp) ?_
  refine AW.seqR mixed [] [none, none] (by kernel_rfl) fun G4 R4 hG4 hR4 => ?_
  obtain ⟨h1, hF⟩ := chk_elim hF
  try simp [h1]
  repeat' apply And.intro
  any_goals (first | exact hG4 _ (by kernel_rfl) | refine hR4 _ _ _ ?_ | omega | (unfold maxLen; omega) | (simp [h1]; done) | (simp [h1]; omega))
  refine AW.wk [(0, AV.ptr 0 0)] [(0, .cells (List.map (AV.int .u32) ([1116352408, 1899447441, 3049323471, 3921009573, 961987163, 1508970993, 2453635748, 2870763221, 3624381080, 310598401, 607225278, 1426881987, 1925078388, 2162078206, 2614888103, 3248222580, 3835390401, 4022224774, 264347078, 604807628, 770255983, 1249150122, 1555081692, 1996064986, 2554220882, 2821834349, 2952996808, 3210313671, 3336571891, 3584528711, 113926993, 338241895, 666307205, 773529912, 1294757372, 1396182291, 1695183700, 1986661051, 2177026350, 2456956037, 2730485921, 2820302411, 3259730800, 3345764771, 3516065817, 3600352804, 4094571909, 275423344, 430227734, 506948616, 659060556, 883997877, 958139571, 1322822218, 1537002063, 1747873779, 1955562222, 2024104815, 2227730452, 2361852424, 2428436474, 2756734187, 3204031479, 3329325298] : List Int)))] 1 (by simp [h1]) (by simp [h1]) (by simp) ?_
  obtain ⟨h2, hF⟩ := chk_elim hF
  have h2_ := ne_of_len h2 (by decide)
  simp only [Option.some.injEq] at hF
  subst hF
  refine AW.ret (hQ _ _ _ ?_ (matchO_0 ?_)).1
  · simp [Try.f88, h1, h2, h2_]
  · simp [h1, h2, h2_]
set_option maxHeartbeats 4000000 in
theorem w_roster_Join_1 (k : Nat) (v0 : Int) (v1 : (List Bool)) (v2 : (List Bool)) (v3 : Bool) (hF : roster_Join_1 k v0 v1 v2 = some v3) :
    FCall Try.prog 93 [AV.int .i64 v0, AV.ptr 0 0, AV.ptr 1 0] [.cells (List.map AV.bool v1), .cells (List.map AV.bool v2)] (AV.bool v3) [some (.cells (List.map AV.bool v1)), some (.cells (List.map AV.bool v2))] := by
  unfold roster_Join_1 at hF
  refine FCall.enter Try.func93 rfl (by simp) (by decide) (by simp) (by simp) (by simp) (by simp) (by simp) ?_
  intro c0 w0 Q h0 hQ
  refine AW.wk [(0, AV.int .i64 v0), (1, AV.ptr 0 0), (2, AV.ptr 1 0)] [(0, .cells (List.map AV.bool v1)), (1, .cells (List.map AV.bool v2))] 2 (by simp) (by simp) (by simp) ?_
  refine AW.seqR mixed [] [none] (by kernel_rfl) fun G3 R3 hG3 hR3 => ?_
  try simp
  repeat' apply And.intro
  any_goals (first | exact hG3 _ (by kernel_rfl) | refine hR3 _ _ _ ?_ | omega | (unfold maxLen; omega) | (simp; done) | (simp; omega))
  refine AW.wk [(0, AV.int .i64 v0), (1, AV.ptr 0 0), (2, AV.ptr 1 0)] [(0, .cells (List.map AV.bool v1)), (1, .cells (List.map AV.bool v2))] 2 (by simp) (by simp) (by simp) ?_
  refine AW.seqR mixed [] [none, none, none, none, some (8, false), some (8, false), some (8, false), none, none] (by kernel_rfl) fun G4 R4 hG4 hR4 => ?_
  obtain ⟨⟨h1, h3, h2⟩, hF⟩ := chk_elim hF
  have h2_ := ne_of_lt h2
  obtain ⟨v4, h4, h5, h6, hF⟩ := idx_elim hF
  have h6_ := get_of h6
  try simp at h6_
  have h5_ := h5
  try simp at h5_
  by_cases h7 : v4 = true
  · replace hF := ite_t h7 hF
    have h7_ := h7
    try simp at h7_
    try simp [h1, h2, h3, h2_, h4, h5, h6, h6_, h5_, h7, h7_]
    repeat' apply And.intro
    any_goals (first | exact hG4 _ (by kernel_rfl) | refine hR4 _ _ _ ?_ | omega | (unfold maxLen; omega) | (simp [h1, h2, h3, h2_, h4, h5, h6, h6_, h5_, h7, h7_]; done) | (simp [h1, h2, h3, h2_, h4, h5, h6, h6_, h5_, h7, h7_]; omega))
    refine AW.wk [(4, AV.bool true)] [(0, .cells (List.map AV.bool v1)), (1, .cells (List.map AV.bool v2))] 2 (by simp [h1, h2, h3, h2_, h4, h5, h6, h6_, h5_, h7, h7_]) (by simp [h1, h2, h3, h2_, h4, h5, h6, h6_, h5_, h7, h7_]) (by simp) ?_
    simp only [Option.some.injEq] at hF
    subst hF
    refine AW.ret (hQ _ _ _ ?_ (matchO_0 ?_)).1
    · simp [Try.f93, h1, h2, h3, h2_, h4, h5, h6, h6_, h5_, h7, h7_]
    · simp [h1, h2, h3, h2_, h4, h5, h6, h6_, h5_, h7, h7_]
  · replace hF := ite_f h7 hF
    have h7_ := h7
    try simp at h7_
    obtain ⟨⟨h8, h10, h9⟩, hF⟩ := chk_elim hF
    have h9_ := ne_of_lt h9
    obtain ⟨v5, h11, h12, h13, hF⟩ := idx_elim hF
    have h13_ := get_of h13
    try simp at h13_
    have h12_ := h12
    try simp at h12_
    try simp [h1, h2, h3, h2_, h4, h5, h6, h6_, h5_, h7, h7_, h8, h9, h10, h9_, h11, h12, h13, h13_, h12_]
    repeat' apply And.intro
    any_goals (first | exact hG4 _ (by kernel_rfl) | refine hR4 _ _ _ ?_ | omega | (unfold maxLen; omega) | (simp [h1, h2, h3, h2_, h4, h5, h6, h6_, h5_, h7, h7_, h8, h9, h10, h9_, h11, h12, h13, h13_, h12_]; done) | (simp [h1, h2, h3, h2_, h4, h5, h6, h6_, h5_, h7, h7_, h8, h9, h10, h9_, h11, h12, h13, h13_, h12_]; omega))
    refine AW.wk [(4, AV.bool v5)] [(0, .cells (List.map AV.bool v1)), (1, .cells (List.map AV.bool v2))] 2 (by simp [h1, h2, h3, h2_, h4, h5, h6, h6_, h5_, h7, h7_, h8, h9, h10, h9_, h11, h12, h13, h13_, h12_]) (by simp [h1, h2, h3, h2_, h4, h5, h6, h6_, h5_, h7, h7_, h8, h9, h10, h9_, h11, h12, h13, h13_, h12_]) (by simp) ?_
    simp only [Option.some.injEq] at hF
    subst hF
    refine AW.ret (hQ _ _ _ ?_ (matchO_0 ?_)).1
    · simp [Try.f93, h1, h2, h3, h2_, h4, h5, h6, h6_, h5_, h7, h7_, h8, h9, h10, h9_, h11, h12, h13, h13_, h12_]
    · simp [h1, h2, h3, h2_, h4, h5, h6, h6_, h5_, h7, h7_, h8, h9, h10, h9_, h11, h12, h13, h13_, h12_]
set_option maxHeartbeats 4000000 in
theorem w_roster_keys_Join_1 (k : Nat) (v0 : (List Bool)) (v1 : (List Bool)) (v2 : (List Int)) (hF : roster_keys_Join_1 k v0 v1 = some v2) :
    FCall Try.prog 92 [AV.fn 93 [AV.ptr 0 0, AV.ptr 1 0]] [.cells (List.map AV.bool v0), .cells (List.map AV.bool v1)] (AV.slc 2 0 1 v2.length false) [some (.cells (List.map AV.bool v0)), some (.cells (List.map AV.bool v1)), some (.grow (List.map (AV.int .i64) v2))] := by
  unfold roster_keys_Join_1 at hF
  refine FCall.enter Try.func92 rfl (by simp) (by decide) (by simp) (by simp) (by simp) (by simp) (by simp) ?_
  intro c0 w0 Q h0 hQ
  refine AW.wk [(0, AV.fn 93 [AV.ptr 0 0, AV.ptr 1 0])] [(0, .cells (List.map AV.bool v0)), (1, .cells (List.map AV.bool v1))] 2 (by simp) (by simp) (by simp) ?_
  refine AW.seqR mixed [] [none] (by kernel_rfl) fun G69 R69 hG69 hR69 => ?_
  try simp
  repeat' apply And.intro
  any_goals (first | exact hG69 _ (by kernel_rfl) | refine hR69 _ _ _ ?_ | omega | (unfold maxLen; omega) | (simp; done) | (simp; omega))
  refine AW.wk [(0, AV.fn 93 [AV.ptr 0 0, AV.ptr 1 0])] [(0, .cells (List.map AV.bool v0)), (1, .cells (List.map AV.bool v1))] 2 (by simp) (by simp) (by simp) ?_
  refine AW.seqR mixed [] [none] (by kernel_rfl) fun G70 R70 hG70 hR70 => ?_
  try simp
  repeat' apply And.intro
  any_goals (first | exact hG70 _ (by kernel_rfl) | refine hR70 _ _ _ ?_ | omega | (unfold maxLen; omega) | (simp; done) | (simp; omega))
  refine AW.wk [(0, AV.fn 93 [AV.ptr 0 0, AV.ptr 1 0]), (3, AV.lst true true (List.map (AV.int .i64) ([] : List Int)))] [(0, .cells (List.map AV.bool v0)), (1, .cells (List.map AV.bool v1))] 2 (by simp) (by simp) (by simp) ?_
  refine AW.seq fun K103 hK103 => ?_
  refine AW.seqR mixed [] [none] (by kernel_rfl) fun G104 R104 hG104 hR104 => ?_
  try simp
  repeat' apply And.intro
  any_goals (first | exact hG104 _ (by kernel_rfl) | refine hR104 _ _ _ ?_ | omega | (unfold maxLen; omega) | (simp; done) | (simp; omega))
  refine AW.wk [(0, AV.fn 93 [AV.ptr 0 0, AV.ptr 1 0]), (3, AV.lst true true (List.map (AV.int .i64) ([] : List Int))), (5, AV.int .i64 0)] [(0, .cells (List.map AV.bool v0)), (1, .cells (List.map AV.bool v1))] 2 (by simp) (by simp) (by simp) ?_
  refine AW.block ?_
  refine AW.own' 3 1 true (by simp) (by decide) ?_
  refine AW.loopF (α := (Int × (List Int))) (fun n (v3, v4) => roster_keys_Join_1.L1 k v0 v1 n v3 v4 = some v2) (fun (v3, v4) => [(0, AV.fn 93 [AV.ptr 0 0, AV.ptr 1 0]), (3, AV.slc 2 0 1 v4.length false), (5, AV.int .i64 v3)]) (fun (v3, v4) => [(0, .cells (List.map AV.bool v0)), (1, .cells (List.map AV.bool v1)), (2, .grow (List.map (AV.int .i64) v4))]) 3 k ((0, ([] : List Int))) hF (by simp) (by simp) (by simp) ?_
  rintro (_|n1) ⟨v3, v4⟩ hF K125 hK125
  · try dsimp only at hF
    rw [roster_keys_Join_1.L1] at hF; cases hF
  try dsimp only at hF
  rw [roster_keys_Join_1.L1] at hF
  refine AW.seqR mixed [] [none] (by kernel_rfl) fun G126 R126 hG126 hR126 => ?_
  try simp
  repeat' apply And.intro
  any_goals (first | exact hG126 _ (by kernel_rfl) | refine hR126 _ _ _ ?_ | omega | (unfold maxLen; omega) | (simp; done) | (simp; omega))
  refine AW.wk [(0, AV.fn 93 [AV.ptr 0 0, AV.ptr 1 0]), (3, AV.slc 2 0 1 v4.length false), (5, AV.int .i64 v3), (6, AV.bool (decide (v3 < 64)))] [(0, .cells (List.map AV.bool v0)), (1, .cells (List.map AV.bool v1)), (2, .grow (List.map (AV.int .i64) v4))] 3 (by simp) (by simp) (by simp) ?_
  refine AW.seq fun K127 hK127 => ?_
  by_cases h1 : v3 < 64
  · replace hF := ite_t h1 hF
    have h1_ := h1
    try simp at h1_
    refine AW.condT (by decide) (by first | (simp [h1, h1_]; done) | (simp [h1, h1_]; omega)) ?_
    refine AW.skip ?_
    refine hK127 _ _ _ ?_
    refine AW.midF (α := (List Int)) (fun v5 => roster_keys_Join_1.J2 k v3 (fun v3_ v4_ => roster_keys_Join_1.L1 k v0 v1 n1 v3_ v4_) v5 = some v2) (fun v5 => [(0, AV.fn 93 [AV.ptr 0 0, AV.ptr 1 0]), (3, AV.slc 2 0 1 v5.length false), (5, AV.int .i64 v3)]) (fun v5 => [(0, .cells (List.map AV.bool v0)), (1, .cells (List.map AV.bool v1)), (2, .grow (List.map (AV.int .i64) v5))]) 3 (fun K132 hK132 => ?_) ?_
    · refine AW.block ?_
      refine AW.seqR mixed [] [none, none] (by kernel_rfl) fun G133 R133 hG133 hR133 => ?_
      try simp [h1, h1_]
      repeat' apply And.intro
      any_goals (first | exact hG133 _ (by kernel_rfl) | refine hR133 _ _ _ ?_ | omega | (unfold maxLen; omega) | (simp [h1, h1_]; done) | (simp [h1, h1_]; omega))
      refine AW.wk [(0, AV.fn 93 [AV.ptr 0 0, AV.ptr 1 0]), (3, AV.slc 2 0 1 v4.length false), (4, AV.int .i64 v3), (5, AV.int .i64 v3)] [(0, .cells (List.map AV.bool v0)), (1, .cells (List.map AV.bool v1)), (2, .grow (List.map (AV.int .i64) v4))] 3 (by simp [h1, h1_]) (by simp [h1, h1_]) (by simp) ?_
      refine AW.seqR mixed [] [none, none, none] (by kernel_rfl) fun G134 R134 hG134 hR134 => ?_
      try simp [h1, h1_]
      repeat' apply And.intro
      try any_goals (first | omega | (unfold maxLen; omega) | (simp [h1, h1_]; done))
      obtain ⟨v6, h2, hF⟩ := bnd1_elim hF
      refine aCall_l (w_roster_Join_1 k _ _ _ _ h2) (by simp) [0, 1] [] [] rfl (.cons (.same (by simp [h1, h1_])) (.cons (.same (by simp [h1, h1_])) (.cons (.same (by simp [h1, h1_])) .nil))) (by simp [h1, h1_]) (by decide) (by simp) (by simp) (.inl rfl) (by simp) (by simp) ?_
      try simp [h1, h1_]
      repeat' apply And.intro
      any_goals (first | exact hG134 _ (by kernel_rfl) | refine hR134 _ _ _ ?_ | omega | (unfold maxLen; omega) | (simp [h1, h1_]; done) | (simp [h1, h1_]; omega))
      refine AW.wk [(0, AV.fn 93 [AV.ptr 0 0, AV.ptr 1 0]), (3, AV.slc 2 0 1 v4.length false), (4, AV.int .i64 v3), (5, AV.int .i64 v3), (10, AV.bool v6)] [(0, .cells (List.map AV.bool v0)), (1, .cells (List.map AV.bool v1)), (2, .grow (List.map (AV.int .i64) v4))] 3 (by simp [h1, h1_]) (by simp [h1, h1_]) (by simp) ?_
      by_cases h3 : v6 = true
      · replace hF := ite_t h3 hF
        have h3_ := h3
        try simp at h3_
        refine AW.condT (by decide) (by first | (simp [h1, h1_, h3, h3_]; done) | (simp [h1, h1_, h3, h3_]; omega)) ?_
        refine AW.region mixed [] [none, none, none, none, none] (by kernel_rfl) fun G135 R135 hG135 hR135 => ?_
        obtain ⟨h4, hF⟩ := chk_elim hF
        have h4_ := h4
        try simp at h4_
        try simp [h1, h1_, h3, h3_, h4]
        repeat' apply And.intro
        any_goals (first | exact hG135 _ (by kernel_rfl) | refine hR135 _ _ _ ?_ | omega | (unfold maxLen; omega) | (simp [h1, h1_, h3, h3_, h4]; done) | (simp [h1, h1_, h3, h3_, h4]; omega))
        refine hK132 _ _ _ ?_
        refine Can.weak [(0, AV.fn 93 [AV.ptr 0 0, AV.ptr 1 0]), (3, AV.slc 3 0 1 ((v4 ++ ([v3] : List Int)).length) false), (5, AV.int .i64 v3)] [(0, .cells (List.map AV.bool v0)), (1, .cells (List.map AV.bool v1)), (3, .grow (List.map (AV.int .i64) (v4 ++ ([v3] : List Int))))] 4 (by simp [h1, h1_, h3, h3_, h4]) (by simp [h1, h1_, h3, h3_, h4]) (by simp) ?_
        refine Can.ren (m := 2) h0 [(0, 0), (1, 1), (2, 3)] [(0, AV.fn 93 [AV.ptr 0 0, AV.ptr 1 0]), (3, AV.slc 2 0 1 ((v4 ++ ([v3] : List Int)).length) false), (5, AV.int .i64 v3)] [(0, .cells (List.map AV.bool v0)), (1, .cells (List.map AV.bool v1)), (2, .grow (List.map (AV.int .i64) (v4 ++ ([v3] : List Int))))] 3 (by decide) (by decide) (by decide) rfl (by simp [h1, h1_, h3, h3_, h4]) (by simp [h1, h1_, h3, h3_, h4]) ?_
        exact Can.join (v4 ++ ([v3] : List Int)) hF (by simp [h1, h1_, h3, h3_, h4]) (by simp [h1, h1_, h3, h3_, h4]) (by simp)
      · replace hF := ite_f h3 hF
        have h3_ := h3
        try simp at h3_
        refine AW.condF (by decide) (by first | (simp [h1, h1_, h3, h3_]; done) | (simp [h1, h1_, h3, h3_]; omega)) ?_
        refine AW.skip ?_
        refine hK132 _ _ _ ?_
        exact Can.join (v4) hF (by simp [h1, h1_, h3, h3_]) (by simp [h1, h1_, h3, h3_]) (by simp)
    · rintro v5 hF
      try dsimp only at hF
      unfold roster_keys_Join_1.J2 at hF
      refine AW.region mixed [] [none, none] (by kernel_rfl) fun G131 R131 hG131 hR131 => ?_
      try simp [h1, h1_]
      repeat' apply And.intro
      any_goals (first | exact hG131 _ (by kernel_rfl) | refine hR131 _ _ _ ?_ | omega | (unfold maxLen; omega) | (simp [h1, h1_]; done) | (simp [h1, h1_]; omega))
      refine hK125 _ _ _ ?_
      refine Can.weak [(0, AV.fn 93 [AV.ptr 0 0, AV.ptr 1 0]), (3, AV.slc 2 0 1 v5.length false), (5, AV.int .i64 (IntKind.wrap .i64 (v3 + 1)))] [(0, .cells (List.map AV.bool v0)), (1, .cells (List.map AV.bool v1)), (2, .grow (List.map (AV.int .i64) v5))] 3 (by simp [h1, h1_]) (by simp [h1, h1_]) (by simp) ?_
      exact Can.next (k' := n1) ((IntKind.wrap .i64 (v3 + 1), v5)) (by omega) hF (by simp [h1, h1_]) (by simp [h1, h1_]) (by simp)
  · replace hF := ite_f h1 hF
    have h1_ := h1
    try simp at h1_
    refine AW.condF (by decide) (by first | (simp [h1, h1_]; done) | (simp [h1, h1_]; omega)) ?_
    refine AW.exit ?_
    try simp
    refine hK103 _ _ _ ?_
    refine AW.seqR mixed [] [none, none] (by kernel_rfl) fun G136 R136 hG136 hR136 => ?_
    try simp [h1, h1_]
    repeat' apply And.intro
    any_goals (first | exact hG136 _ (by kernel_rfl) | refine hR136 _ _ _ ?_ | omega | (unfold maxLen; omega) | (simp [h1, h1_]; done) | (simp [h1, h1_]; omega))
    refine AW.wk [(2, AV.slc 2 0 1 v4.length false)] [(0, .cells (List.map AV.bool v0)), (1, .cells (List.map AV.bool v1)), (2, .grow (List.map (AV.int .i64) v4))] 3 (by simp [h1, h1_]) (by simp [h1, h1_]) (by simp) ?_
    simp only [Option.some.injEq] at hF
    subst hF
    refine AW.ret (hQ _ _ _ ?_ (matchO_0 ?_)).1
    · simp [Try.f92, h1, h1_]
    · simp [h1, h1_]
set_option maxHeartbeats 4000000 in
theorem w_roster_Join (k : Nat) (v0 : (List Int)) (v1 : (List Int)) (v2 : (List Int)) (hF : roster_Join k v0 v1 = some v2) :
    FCall Try.prog 66 [AV.lst false false (List.map (AV.int .i64) v0), AV.lst false false (List.map (AV.int .i64) v1)] [] (AV.slc 0 0 1 v2.length false) [some (.grow (List.map (AV.int .i64) v2))] := by
  unfold roster_Join at hF
  refine FCall.enter Try.func66 rfl (by simp) (by decide) (by simp) (by simp) (by simp) (by simp) (by simp) ?_
  intro c0 w0 Q h0 hQ
  refine AW.wk [(0, AV.lst false false (List.map (AV.int .i64) v0)), (1, AV.lst false false (List.map (AV.int .i64) v1))] [] 0 (by simp) (by simp) (by simp) ?_
  refine AW.seqR mixed [] [none] (by kernel_rfl) fun G4 R4 hG4 hR4 => ?_
  try simp
  repeat' apply And.intro
  any_goals (first | exact hG4 _ (by kernel_rfl) | refine hR4 _ _ _ ?_ | omega | (unfold maxLen; omega) | (simp; done) | (simp; omega))
  refine AW.wk [(0, AV.lst false false (List.map (AV.int .i64) v0)), (1, AV.lst false false (List.map (AV.int .i64) v1))] [] 0 (by simp) (by simp) (by simp) ?_
  refine AW.seqR mixed [] [none, none, none, none, none, none, none, none] (by kernel_rfl) fun G5 R5 hG5 hR5 => ?_
  try simp
  repeat' apply And.intro
  try any_goals (first | omega | (unfold maxLen; omega) | (simp; done))
  obtain ⟨v3, h1, hF⟩ := bnd1_elim hF
  refine aCall_l (w_roster_of k _ _ h1) (by simp) [] [] [] rfl (.cons (.same (by simp)) .nil) (by simp) (by decide) (by simp) (by simp) (.inl rfl) (by simp) (by simp) ?_
  try simp
  repeat' apply And.intro
  try any_goals (first | omega | (unfold maxLen; omega) | (simp; done))
  obtain ⟨v4, h2, hF⟩ := bnd1_elim hF
  refine aCall_l (w_roster_of k _ _ h2) (by simp) [] [] [] rfl (.cons (.same (by simp)) .nil) (by simp) (by decide) (by simp) (by simp) (.inl rfl) (by simp) (by simp) ?_
  obtain ⟨h3, hF⟩ := chk_elim hF
  obtain ⟨h4, hF⟩ := chk_elim hF
  try simp [h3, h4]
  repeat' apply And.intro
  any_goals (first | exact hG5 _ (by kernel_rfl) | refine hR5 _ _ _ ?_ | omega | (unfold maxLen; omega) | (simp [h3, h4]; done) | (simp [h3, h4]; omega))
  refine AW.wk [(5, AV.ptr 0 0), (6, AV.ptr 1 0)] [(0, .cells (List.map AV.bool v3)), (1, .cells (List.map AV.bool v4))] 2 (by simp [h3, h4]) (by simp [h3, h4]) (by simp) ?_
  refine AW.seqR mixed [] [none, none, none] (by kernel_rfl) fun G6 R6 hG6 hR6 => ?_
  try simp [h3, h4]
  repeat' apply And.intro
  try any_goals (first | omega | (unfold maxLen; omega) | (simp [h3, h4]; done))
  obtain ⟨v5, h5, hF⟩ := bnd1_elim hF
  refine aCall_l (w_roster_keys_Join_1 k _ _ _ h5) (by simp) [0, 1] [] [] rfl (.cons (.same (by simp [h3, h4])) .nil) (by simp [h3, h4]) (by decide) (by simp) (by simp) (.inl rfl) (by simp) (by simp) ?_
  try simp [h3, h4]
  repeat' apply And.intro
  any_goals (first | exact hG6 _ (by kernel_rfl) | refine hR6 _ _ _ ?_ | omega | (unfold maxLen; omega) | (simp [h3, h4]; done) | (simp [h3, h4]; omega))
  refine AW.wk [(4, AV.slc 2 0 1 v5.length false)] [(2, .grow (List.map (AV.int .i64) v5))] 3 (by simp [h3, h4]) (by simp [h3, h4]) (by simp) ?_
  refine AW.rnm (m := 0) h0 [(0, 2)] [(4, AV.slc 0 0 1 v5.length false)] [(0, .grow (List.map (AV.int .i64) v5))] 1 (by decide) (by decide) (by decide) rfl (by simp [h3, h4]) (by simp [h3, h4]) ?_
  simp only [Option.some.injEq] at hF
  subst hF
  refine AW.ret (hQ _ _ _ ?_ (matchO_0 ?_)).1
  · simp [Try.f66, h3, h4]
  · simp [h3, h4]
end Go.TF
