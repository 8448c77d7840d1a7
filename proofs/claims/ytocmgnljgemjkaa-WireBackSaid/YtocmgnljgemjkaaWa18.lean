/- Walks: the Go text computes the Lean functions (printed by a program of our own). -/
import Derived.Test.YtocmgnljgemjkaaPu
import Derived.Test.YtocmgnljgemjkaaAbsT
import Derived.Test.YtocmgnljgemjkaaWa0
import Derived.Test.YtocmgnljgemjkaaWa4
import Derived.Test.YtocmgnljgemjkaaWa5
import Derived.Test.YtocmgnljgemjkaaWa6
import Derived.Test.YtocmgnljgemjkaaWa11
set_option linter.unusedVariables false
set_option linter.unusedSimpArgs false
set_option maxRecDepth 100000
namespace Go.TF
open Go Go.Abs Go.Proofs Go.Proofs.YtocmgnljgemjkaaT
set_option maxHeartbeats 4000000 in
theorem w_law02_WireBack (k : Nat) (v0 : Int) (v1 : ByteArray) (v2 : (List Int)) (v3 : Bool) (hF : law02_WireBack k v0 v1 v2 = some v3) :
    FCall Try.prog 11 [AV.int .i64 v0, AV.str v1, AV.lst false false (List.map (AV.int .i64) v2)] [] (AV.bool v3) [] := by
  unfold law02_WireBack at hF
  refine FCall.enter Try.func11 rfl (by simp) (by decide) (by simp) (by simp) (by simp) (by simp) (by simp) ?_
  intro c0 w0 Q h0 hQ
  refine AW.wk [(0, AV.int .i64 v0), (1, AV.str v1), (2, AV.lst false false (List.map (AV.int .i64) v2))] [] 0 (by simp) (by simp) (by simp) ?_
  refine AW.seqR mixed [] [none] (by kernel_rfl) fun G37 R37 hG37 hR37 => ?_
  try simp
  repeat' apply And.intro
  any_goals (first | exact hG37 _ (by kernel_rfl) | refine hR37 _ _ _ ?_ | omega | (unfold maxLen; omega) | (simp; done) | (simp; omega))
  refine AW.wk [(0, AV.int .i64 v0), (1, AV.str v1), (2, AV.lst false false (List.map (AV.int .i64) v2))] [] 0 (by simp) (by simp) (by simp) ?_
  refine AW.seq fun K41 hK41 => ?_
  refine AW.seqR mixed [] [none, none, none, none, some (26, false), some (26, false), some (26, false), none] (by kernel_rfl) fun G42 R42 hG42 hR42 => ?_
  by_cases h1 : 100 < (v1.size : Int)
  · replace hF := ite_t h1 hF
    have h1_ := h1
    try simp at h1_
    try simp [h1, h1_]
    repeat' apply And.intro
    any_goals (first | exact hG42 _ (by kernel_rfl) | refine hR42 _ _ _ ?_ | omega | (unfold maxLen; omega) | (simp [h1, h1_]; done) | (simp [h1, h1_]; omega))
    refine AW.wk [(0, AV.int .i64 v0), (1, AV.str v1), (2, AV.lst false false (List.map (AV.int .i64) v2)), (30, AV.bool true)] [] 0 (by simp [h1, h1_]) (by simp [h1, h1_]) (by simp) ?_
    refine AW.condT (by decide) (by simp [h1, h1_]) ?_
    refine AW.seqR mixed [] [none, none] (by kernel_rfl) fun G43 R43 hG43 hR43 => ?_
    try simp [h1, h1_]
    repeat' apply And.intro
    try any_goals (first | omega | (unfold maxLen; omega) | (simp [h1, h1_]; done))
    obtain ⟨v4, h2, hF⟩ := bnd1_elim hF
    refine aCall_l (w_law02_awake k _ h2) (by simp) [] [] [] rfl .nil (by simp [h1, h1_]) (by decide) (by simp) (by simp) (.inl rfl) (by simp) (by simp) ?_
    try simp [h1, h1_]
    repeat' apply And.intro
    any_goals (first | exact hG43 _ (by kernel_rfl) | refine hR43 _ _ _ ?_ | omega | (unfold maxLen; omega) | (simp [h1, h1_]; done) | (simp [h1, h1_]; omega))
    refine AW.wk [(6, AV.bool v4)] [] 0 (by simp [h1, h1_]) (by simp [h1, h1_]) (by simp) ?_
    simp only [Option.some.injEq] at hF
    subst hF
    refine AW.ret (hQ _ _ _ ?_ (matchO_0 ?_)).1
    · simp [Try.f11, h1, h1_]
    · simp [h1, h1_]
  · replace hF := ite_f h1 hF
    have h1_ := h1
    try simp at h1_
    try simp [h1, h1_]
    repeat' apply And.intro
    any_goals (first | exact hG42 _ (by kernel_rfl) | refine hR42 _ _ _ ?_ | omega | (unfold maxLen; omega) | (simp [h1, h1_]; done) | (simp [h1, h1_]; omega))
    refine AW.wk [(0, AV.int .i64 v0), (1, AV.str v1), (2, AV.lst false false (List.map (AV.int .i64) v2)), (30, AV.bool (decide (60 < (v2.length : Int))))] [] 0 (by simp [h1, h1_]) (by simp [h1, h1_]) (by simp) ?_
    by_cases h3 : 60 < (v2.length : Int)
    · replace hF := ite_t h3 hF
      have h3_ := h3
      try simp at h3_
      refine AW.condT (by decide) (by first | (simp [h1, h1_, h3, h3_]; done) | (simp [h1, h1_, h3, h3_]; omega)) ?_
      refine AW.seqR mixed [] [none, none] (by kernel_rfl) fun G44 R44 hG44 hR44 => ?_
      try simp [h1, h1_, h3, h3_]
      repeat' apply And.intro
      try any_goals (first | omega | (unfold maxLen; omega) | (simp [h1, h1_, h3, h3_]; done))
      obtain ⟨v5, h4, hF⟩ := bnd1_elim hF
      refine aCall_l (w_law02_awake k _ h4) (by simp) [] [] [] rfl .nil (by simp [h1, h1_, h3, h3_]) (by decide) (by simp) (by simp) (.inl rfl) (by simp) (by simp) ?_
      try simp [h1, h1_, h3, h3_]
      repeat' apply And.intro
      any_goals (first | exact hG44 _ (by kernel_rfl) | refine hR44 _ _ _ ?_ | omega | (unfold maxLen; omega) | (simp [h1, h1_, h3, h3_]; done) | (simp [h1, h1_, h3, h3_]; omega))
      refine AW.wk [(6, AV.bool v5)] [] 0 (by simp [h1, h1_, h3, h3_]) (by simp [h1, h1_, h3, h3_]) (by simp) ?_
      simp only [Option.some.injEq] at hF
      subst hF
      refine AW.ret (hQ _ _ _ ?_ (matchO_0 ?_)).1
      · simp [Try.f11, h1, h1_, h3, h3_]
      · simp [h1, h1_, h3, h3_]
    · replace hF := ite_f h3 hF
      have h3_ := h3
      try simp at h3_
      refine AW.condF (by decide) (by first | (simp [h1, h1_, h3, h3_]; done) | (simp [h1, h1_, h3, h3_]; omega)) ?_
      refine AW.skip ?_
      refine hK41 _ _ _ ?_
      refine AW.seqR mixed [] [none, none, none, none, none, none, none] (by kernel_rfl) fun G45 R45 hG45 hR45 => ?_
      try simp [h1, h1_, h3, h3_]
      repeat' apply And.intro
      try any_goals (first | omega | (unfold maxLen; omega) | (simp [h1, h1_, h3, h3_]; done))
      obtain ⟨v6, h5, hF⟩ := bnd1_elim hF
      refine aCall_l (w_wire_Int k _ _ _ h5) (by simp) [] [] [] rfl (.cons (Coe.fl (by simp [h1, h1_, h3, h3_])) (.cons (.same (by simp [h1, h1_, h3, h3_])) .nil)) (by simp [h1, h1_, h3, h3_]) (by decide) (by simp) (by simp) (.inl rfl) (by simp) (by simp) ?_
      try simp [h1, h1_, h3, h3_]
      repeat' apply And.intro
      try any_goals (first | omega | (unfold maxLen; omega) | (simp [h1, h1_, h3, h3_]; done))
      obtain ⟨v7, h6, hF⟩ := bnd1_elim hF
      refine aCall_l (w_wire_Text k _ _ _ h6) (by simp) [] [0] [] rfl (.cons (Coe.l (o := .grow (List.map (AV.int .u8) v6)) (by simp [h1, h1_, h3, h3_]) rfl (by simp [h1, h1_, h3, h3_]) (by simp [noIdsL]) (by simp [h1, h1_, h3, h3_]) (by simp [h1, h1_, h3, h3_])) (.cons (.same (by simp [h1, h1_, h3, h3_])) .nil)) (by simp [h1, h1_, h3, h3_]) (by decide) (by simp) (by simp) (.inr ⟨by simp, by simp⟩) (by simp) (by simp) ?_
      try simp [h1, h1_, h3, h3_]
      repeat' apply And.intro
      try any_goals (first | omega | (unfold maxLen; omega) | (simp [h1, h1_, h3, h3_]; done))
      obtain ⟨v8, h7, hF⟩ := bnd1_elim hF
      refine aCall_l (w_wire_Ints k _ _ _ h7) (by simp) [] [1] [] rfl (.cons (Coe.l (o := .grow (List.map (AV.int .u8) v7)) (by simp [h1, h1_, h3, h3_]) rfl (by simp [h1, h1_, h3, h3_]) (by simp [noIdsL]) (by simp [h1, h1_, h3, h3_]) (by simp [h1, h1_, h3, h3_])) (.cons (.same (by simp [h1, h1_, h3, h3_])) .nil)) (by simp [h1, h1_, h3, h3_]) (by decide) (by simp) (by simp) (.inr ⟨by simp, by simp⟩) (by simp) (by simp) ?_
      try simp [h1, h1_, h3, h3_]
      repeat' apply And.intro
      any_goals (first | exact hG45 _ (by kernel_rfl) | refine hR45 _ _ _ ?_ | omega | (unfold maxLen; omega) | (simp [h1, h1_, h3, h3_]; done) | (simp [h1, h1_, h3, h3_]; omega))
      refine AW.wk [(0, AV.int .i64 v0), (1, AV.str v1), (2, AV.lst false false (List.map (AV.int .i64) v2)), (7, AV.slc 2 0 1 v8.length false)] [(2, .grow (List.map (AV.int .u8) v8))] 3 (by simp [h1, h1_, h3, h3_]) (by simp [h1, h1_, h3, h3_]) (by simp) ?_
      refine AW.frz 2 (o := .grow (List.map (AV.int .u8) v8)) (by simp [h1, h1_, h3, h3_]) rfl [(7, AV.lst false false (List.map (AV.int .u8) v8))] [] ⟨(.l (by simp) (by simp) (by simp) (by simp)), trivial⟩ trivial ?_
      refine AW.wk [(0, AV.int .i64 v0), (1, AV.str v1), (2, AV.lst false false (List.map (AV.int .i64) v2)), (7, AV.lst false false (List.map (AV.int .u8) v8))] [] 3 (by simp [h1, h1_, h3, h3_]) (by simp [h1, h1_, h3, h3_]) (by simp) ?_
      refine AW.seqR mixed [] [none, none, none, none, none, none, none, none, none] (by kernel_rfl) fun G46 R46 hG46 hR46 => ?_
      try simp [h1, h1_, h3, h3_]
      repeat' apply And.intro
      try any_goals (first | omega | (unfold maxLen; omega) | (simp [h1, h1_, h3, h3_]; done))
      obtain ⟨v9, v10, v11, h8, hF⟩ := bnd3_elim hF
      refine aCall_l (w_wire_TakeInt k _ _ _ _ h8) (by simp) [] [] [] rfl (.cons (.same (by simp [h1, h1_, h3, h3_])) .nil) (by simp [h1, h1_, h3, h3_]) (by decide) (by simp) (by simp) (.inl rfl) (by simp) (by simp) ?_
      try simp [h1, h1_, h3, h3_]
      repeat' apply And.intro
      any_goals (first | exact hG46 _ (by kernel_rfl) | refine hR46 _ _ _ ?_ | omega | (unfold maxLen; omega) | (simp [h1, h1_, h3, h3_]; done) | (simp [h1, h1_, h3, h3_]; omega))
      refine AW.wk [(0, AV.int .i64 v0), (1, AV.str v1), (2, AV.lst false false (List.map (AV.int .i64) v2)), (7, AV.lst false false (List.map (AV.int .u8) v8)), (8, AV.int .i64 v9), (9, AV.slc 3 0 1 v10.length false), (10, AV.bool v11)] [(3, .grow (List.map (AV.int .u8) v10))] 4 (by simp [h1, h1_, h3, h3_]) (by simp [h1, h1_, h3, h3_]) (by simp) ?_
      refine AW.frz 3 (o := .grow (List.map (AV.int .u8) v10)) (by simp [h1, h1_, h3, h3_]) rfl [(9, AV.lst false false (List.map (AV.int .u8) v10))] [] ⟨(.l (by simp) (by simp) (by simp) (by simp)), trivial⟩ trivial ?_
      refine AW.wk [(0, AV.int .i64 v0), (1, AV.str v1), (2, AV.lst false false (List.map (AV.int .i64) v2)), (7, AV.lst false false (List.map (AV.int .u8) v8)), (8, AV.int .i64 v9), (9, AV.lst false false (List.map (AV.int .u8) v10)), (10, AV.bool v11)] [] 4 (by simp [h1, h1_, h3, h3_]) (by simp [h1, h1_, h3, h3_]) (by simp) ?_
      refine AW.seqR mixed [] [none, none, none, none, none, none, none, none, none, none, none] (by kernel_rfl) fun G47 R47 hG47 hR47 => ?_
      try simp [h1, h1_, h3, h3_]
      repeat' apply And.intro
      try any_goals (first | omega | (unfold maxLen; omega) | (simp [h1, h1_, h3, h3_]; done))
      obtain ⟨v12, v13, v14, h9, hF⟩ := bnd3_elim hF
      refine aCall_l (w_wire_TakeText k _ _ _ _ _ h9) (by simp) [] [] [] rfl (.cons (.same (by simp [h1, h1_, h3, h3_])) (.cons (.same (by simp [h1, h1_, h3, h3_])) .nil)) (by simp [h1, h1_, h3, h3_]) (by decide) (by simp) (by simp) (.inl rfl) (by simp) (by simp) ?_
      try simp [h1, h1_, h3, h3_]
      repeat' apply And.intro
      any_goals (first | exact hG47 _ (by kernel_rfl) | refine hR47 _ _ _ ?_ | omega | (unfold maxLen; omega) | (simp [h1, h1_, h3, h3_]; done) | (simp [h1, h1_, h3, h3_]; omega))
      refine AW.wk [(0, AV.int .i64 v0), (1, AV.str v1), (2, AV.lst false false (List.map (AV.int .i64) v2)), (7, AV.lst false false (List.map (AV.int .u8) v8)), (8, AV.int .i64 v9), (9, AV.lst false false (List.map (AV.int .u8) v10)), (10, AV.bool v11), (11, AV.str v12), (12, AV.lst false false (List.map (AV.int .u8) v13)), (13, AV.bool v14)] [] 4 (by simp [h1, h1_, h3, h3_]) (by simp [h1, h1_, h3, h3_]) (by simp) ?_
      refine AW.seqR mixed [] [none, none, none, none, none, none, none, none, none, none, none] (by kernel_rfl) fun G48 R48 hG48 hR48 => ?_
      try simp [h1, h1_, h3, h3_]
      repeat' apply And.intro
      try any_goals (first | omega | (unfold maxLen; omega) | (simp [h1, h1_, h3, h3_]; done))
      obtain ⟨v15, v16, v17, h10, hF⟩ := bnd3_elim hF
      refine aCall_l (w_wire_TakeInts k _ _ _ _ _ h10) (by simp) [] [] [] rfl (.cons (.same (by simp [h1, h1_, h3, h3_])) (.cons (.same (by simp [h1, h1_, h3, h3_])) .nil)) (by simp [h1, h1_, h3, h3_]) (by decide) (by simp) (by simp) (.inl rfl) (by simp) (by simp) ?_
      try simp [h1, h1_, h3, h3_]
      repeat' apply And.intro
      any_goals (first | exact hG48 _ (by kernel_rfl) | refine hR48 _ _ _ ?_ | omega | (unfold maxLen; omega) | (simp [h1, h1_, h3, h3_]; done) | (simp [h1, h1_, h3, h3_]; omega))
      refine AW.wk [(0, AV.int .i64 v0), (1, AV.str v1), (2, AV.lst false false (List.map (AV.int .i64) v2)), (7, AV.lst false false (List.map (AV.int .u8) v8)), (8, AV.int .i64 v9), (9, AV.lst false false (List.map (AV.int .u8) v10)), (10, AV.bool v11), (11, AV.str v12), (12, AV.lst false false (List.map (AV.int .u8) v13)), (13, AV.bool v14), (14, AV.slc 4 0 1 v15.length false), (15, AV.lst false false (List.map (AV.int .u8) v16)), (16, AV.bool v17)] [(4, .grow (List.map (AV.int .i64) v15))] 5 (by simp [h1, h1_, h3, h3_]) (by simp [h1, h1_, h3, h3_]) (by simp) ?_
      refine AW.frz 4 (o := .grow (List.map (AV.int .i64) v15)) (by simp [h1, h1_, h3, h3_]) rfl [(14, AV.lst false false (List.map (AV.int .i64) v15))] [] ⟨(.l (by simp) (by simp) (by simp) (by simp)), trivial⟩ trivial ?_
      refine AW.wk [(0, AV.int .i64 v0), (1, AV.str v1), (2, AV.lst false false (List.map (AV.int .i64) v2)), (7, AV.lst false false (List.map (AV.int .u8) v8)), (8, AV.int .i64 v9), (9, AV.lst false false (List.map (AV.int .u8) v10)), (10, AV.bool v11), (11, AV.str v12), (12, AV.lst false false (List.map (AV.int .u8) v13)), (13, AV.bool v14), (14, AV.lst false false (List.map (AV.int .i64) v15)), (15, AV.lst false false (List.map (AV.int .u8) v16)), (16, AV.bool v17)] [] 5 (by simp [h1, h1_, h3, h3_]) (by simp [h1, h1_, h3, h3_]) (by simp) ?_
      refine AW.seq fun K59 hK59 => ?_
      refine AW.seqR mixed [] [none, none, none, some (62, false), some (62, false), none, none, some (66, false), some (66, false), none, none, some (70, false), some (70, false), some (70, false), none, none, some (75, false), some (75, false), some (75, false), none, none, some (80, false), some (80, false), some (80, false), some (80, false), none, none, some (86, false), some (86, false), some (86, false), none, none, some (91, false), some (91, false), some (91, false), some (91, false), some (91, false), some (91, false), some (91, false), none, none, some (100, false), some (100, false), some (100, false), some (100, false), some (100, false), some (100, false), some (100, false), some (100, false), some (100, false), some (100, false), some (100, false), none] (by kernel_rfl) fun G60 R60 hG60 hR60 => ?_
      by_cases h11 : (!v11) = true
      · replace hF := ite_t h11 hF
        have h11_ := h11
        try simp at h11_
        try simp [h1, h1_, h3, h3_, h11, h11_]
        repeat' apply And.intro
        any_goals (first | exact hG60 _ (by kernel_rfl) | refine hR60 _ _ _ ?_ | omega | (unfold maxLen; omega) | (simp [h1, h1_, h3, h3_, h11, h11_]; done) | (simp [h1, h1_, h3, h3_, h11, h11_]; omega))
        refine AW.wk [(1, AV.str v1), (2, AV.lst false false (List.map (AV.int .i64) v2)), (9, AV.lst false false (List.map (AV.int .u8) v10)), (12, AV.lst false false (List.map (AV.int .u8) v13)), (112, AV.bool true)] [] 5 (by simp [h1, h1_, h3, h3_, h11, h11_]) (by simp [h1, h1_, h3, h3_, h11, h11_]) (by simp) ?_
        refine AW.condT (by decide) (by simp [h1, h1_, h3, h3_, h11, h11_]) ?_
        refine AW.seqR mixed [] [none] (by kernel_rfl) fun G61 R61 hG61 hR61 => ?_
        try simp [h1, h1_, h3, h3_, h11, h11_]
        repeat' apply And.intro
        any_goals (first | exact hG61 _ (by kernel_rfl) | refine hR61 _ _ _ ?_ | omega | (unfold maxLen; omega) | (simp [h1, h1_, h3, h3_, h11, h11_]; done) | (simp [h1, h1_, h3, h3_, h11, h11_]; omega))
        refine AW.wk [(6, AV.bool false)] [] 5 (by simp [h1, h1_, h3, h3_, h11, h11_]) (by simp [h1, h1_, h3, h3_, h11, h11_]) (by simp) ?_
        simp only [Option.some.injEq] at hF
        subst hF
        refine AW.ret (hQ _ _ _ ?_ (matchO_0 ?_)).1
        · simp [Try.f11, h1, h1_, h3, h3_, h11, h11_]
        · simp [h1, h1_, h3, h3_, h11, h11_]
      · replace hF := ite_f h11 hF
        have h11_ := h11
        try simp at h11_
        by_cases h12 : (!v14) = true
        · replace hF := ite_t h12 hF
          have h12_ := h12
          try simp at h12_
          try simp [h1, h1_, h3, h3_, h11, h11_, h12, h12_]
          repeat' apply And.intro
          any_goals (first | exact hG60 _ (by kernel_rfl) | refine hR60 _ _ _ ?_ | omega | (unfold maxLen; omega) | (simp [h1, h1_, h3, h3_, h11, h11_, h12, h12_]; done) | (simp [h1, h1_, h3, h3_, h11, h11_, h12, h12_]; omega))
          refine AW.wk [(1, AV.str v1), (2, AV.lst false false (List.map (AV.int .i64) v2)), (9, AV.lst false false (List.map (AV.int .u8) v10)), (12, AV.lst false false (List.map (AV.int .u8) v13)), (112, AV.bool true)] [] 5 (by simp [h1, h1_, h3, h3_, h11, h11_, h12, h12_]) (by simp [h1, h1_, h3, h3_, h11, h11_, h12, h12_]) (by simp) ?_
          refine AW.condT (by decide) (by simp [h1, h1_, h3, h3_, h11, h11_, h12, h12_]) ?_
          refine AW.seqR mixed [] [none] (by kernel_rfl) fun G62 R62 hG62 hR62 => ?_
          try simp [h1, h1_, h3, h3_, h11, h11_, h12, h12_]
          repeat' apply And.intro
          any_goals (first | exact hG62 _ (by kernel_rfl) | refine hR62 _ _ _ ?_ | omega | (unfold maxLen; omega) | (simp [h1, h1_, h3, h3_, h11, h11_, h12, h12_]; done) | (simp [h1, h1_, h3, h3_, h11, h11_, h12, h12_]; omega))
          refine AW.wk [(6, AV.bool false)] [] 5 (by simp [h1, h1_, h3, h3_, h11, h11_, h12, h12_]) (by simp [h1, h1_, h3, h3_, h11, h11_, h12, h12_]) (by simp) ?_
          simp only [Option.some.injEq] at hF
          subst hF
          refine AW.ret (hQ _ _ _ ?_ (matchO_0 ?_)).1
          · simp [Try.f11, h1, h1_, h3, h3_, h11, h11_, h12, h12_]
          · simp [h1, h1_, h3, h3_, h11, h11_, h12, h12_]
        · replace hF := ite_f h12 hF
          have h12_ := h12
          try simp at h12_
          by_cases h13 : (!v17) = true
          · replace hF := ite_t h13 hF
            have h13_ := h13
            try simp at h13_
            try simp [h1, h1_, h3, h3_, h11, h11_, h12, h12_, h13, h13_]
            repeat' apply And.intro
            any_goals (first | exact hG60 _ (by kernel_rfl) | refine hR60 _ _ _ ?_ | omega | (unfold maxLen; omega) | (simp [h1, h1_, h3, h3_, h11, h11_, h12, h12_, h13, h13_]; done) | (simp [h1, h1_, h3, h3_, h11, h11_, h12, h12_, h13, h13_]; omega))
            refine AW.wk [(1, AV.str v1), (2, AV.lst false false (List.map (AV.int .i64) v2)), (9, AV.lst false false (List.map (AV.int .u8) v10)), (12, AV.lst false false (List.map (AV.int .u8) v13)), (112, AV.bool true)] [] 5 (by simp [h1, h1_, h3, h3_, h11, h11_, h12, h12_, h13, h13_]) (by simp [h1, h1_, h3, h3_, h11, h11_, h12, h12_, h13, h13_]) (by simp) ?_
            refine AW.condT (by decide) (by simp [h1, h1_, h3, h3_, h11, h11_, h12, h12_, h13, h13_]) ?_
            refine AW.seqR mixed [] [none] (by kernel_rfl) fun G63 R63 hG63 hR63 => ?_
            try simp [h1, h1_, h3, h3_, h11, h11_, h12, h12_, h13, h13_]
            repeat' apply And.intro
            any_goals (first | exact hG63 _ (by kernel_rfl) | refine hR63 _ _ _ ?_ | omega | (unfold maxLen; omega) | (simp [h1, h1_, h3, h3_, h11, h11_, h12, h12_, h13, h13_]; done) | (simp [h1, h1_, h3, h3_, h11, h11_, h12, h12_, h13, h13_]; omega))
            refine AW.wk [(6, AV.bool false)] [] 5 (by simp [h1, h1_, h3, h3_, h11, h11_, h12, h12_, h13, h13_]) (by simp [h1, h1_, h3, h3_, h11, h11_, h12, h12_, h13, h13_]) (by simp) ?_
            simp only [Option.some.injEq] at hF
            subst hF
            refine AW.ret (hQ _ _ _ ?_ (matchO_0 ?_)).1
            · simp [Try.f11, h1, h1_, h3, h3_, h11, h11_, h12, h12_, h13, h13_]
            · simp [h1, h1_, h3, h3_, h11, h11_, h12, h12_, h13, h13_]
          · replace hF := ite_f h13 hF
            have h13_ := h13
            try simp at h13_
            by_cases h14 : v9 ≠ v0
            · replace hF := ite_t h14 hF
              have h14_ := eqb_f h14
              have h14__ := neb_t h14
              try simp [h1, h1_, h3, h3_, h11, h11_, h12, h12_, h13, h13_, h14, h14_, h14__]
              repeat' apply And.intro
              any_goals (first | exact hG60 _ (by kernel_rfl) | refine hR60 _ _ _ ?_ | omega | (unfold maxLen; omega) | (simp [h1, h1_, h3, h3_, h11, h11_, h12, h12_, h13, h13_, h14, h14_, h14__]; done) | (simp [h1, h1_, h3, h3_, h11, h11_, h12, h12_, h13, h13_, h14, h14_, h14__]; omega))
              refine AW.wk [(1, AV.str v1), (2, AV.lst false false (List.map (AV.int .i64) v2)), (9, AV.lst false false (List.map (AV.int .u8) v10)), (12, AV.lst false false (List.map (AV.int .u8) v13)), (112, AV.bool true)] [] 5 (by simp [h1, h1_, h3, h3_, h11, h11_, h12, h12_, h13, h13_, h14, h14_, h14__]) (by simp [h1, h1_, h3, h3_, h11, h11_, h12, h12_, h13, h13_, h14, h14_, h14__]) (by simp) ?_
              refine AW.condT (by decide) (by simp [h1, h1_, h3, h3_, h11, h11_, h12, h12_, h13, h13_, h14, h14_, h14__]) ?_
              refine AW.seqR mixed [] [none] (by kernel_rfl) fun G64 R64 hG64 hR64 => ?_
              try simp [h1, h1_, h3, h3_, h11, h11_, h12, h12_, h13, h13_, h14, h14_, h14__]
              repeat' apply And.intro
              any_goals (first | exact hG64 _ (by kernel_rfl) | refine hR64 _ _ _ ?_ | omega | (unfold maxLen; omega) | (simp [h1, h1_, h3, h3_, h11, h11_, h12, h12_, h13, h13_, h14, h14_, h14__]; done) | (simp [h1, h1_, h3, h3_, h11, h11_, h12, h12_, h13, h13_, h14, h14_, h14__]; omega))
              refine AW.wk [(6, AV.bool false)] [] 5 (by simp [h1, h1_, h3, h3_, h11, h11_, h12, h12_, h13, h13_, h14, h14_, h14__]) (by simp [h1, h1_, h3, h3_, h11, h11_, h12, h12_, h13, h13_, h14, h14_, h14__]) (by simp) ?_
              simp only [Option.some.injEq] at hF
              subst hF
              refine AW.ret (hQ _ _ _ ?_ (matchO_0 ?_)).1
              · simp [Try.f11, h1, h1_, h3, h3_, h11, h11_, h12, h12_, h13, h13_, h14, h14_, h14__]
              · simp [h1, h1_, h3, h3_, h11, h11_, h12, h12_, h13, h13_, h14, h14_, h14__]
            · replace hF := ite_f h14 hF
              have h14q : v9 = v0 := Classical.not_not.1 h14
              have h14_ := eqb_t h14q
              have h14__ := neb_f h14q
              by_cases h15 : (!strEq v12 v1) = true
              · replace hF := ite_t h15 hF
                have h15_ := h15
                try simp at h15_
                try simp [h1, h1_, h3, h3_, h11, h11_, h12, h12_, h13, h13_, h14_, h14__, h15, h15_]
                repeat' apply And.intro
                any_goals (first | exact hG60 _ (by kernel_rfl) | refine hR60 _ _ _ ?_ | omega | (unfold maxLen; omega) | (simp [h1, h1_, h3, h3_, h11, h11_, h12, h12_, h13, h13_, h14_, h14__, h15, h15_]; done) | (simp [h1, h1_, h3, h3_, h11, h11_, h12, h12_, h13, h13_, h14_, h14__, h15, h15_]; omega))
                refine AW.wk [(1, AV.str v1), (2, AV.lst false false (List.map (AV.int .i64) v2)), (9, AV.lst false false (List.map (AV.int .u8) v10)), (12, AV.lst false false (List.map (AV.int .u8) v13)), (112, AV.bool true)] [] 5 (by simp [h1, h1_, h3, h3_, h11, h11_, h12, h12_, h13, h13_, h14_, h14__, h15, h15_]) (by simp [h1, h1_, h3, h3_, h11, h11_, h12, h12_, h13, h13_, h14_, h14__, h15, h15_]) (by simp) ?_
                refine AW.condT (by decide) (by simp [h1, h1_, h3, h3_, h11, h11_, h12, h12_, h13, h13_, h14_, h14__, h15, h15_]) ?_
                refine AW.seqR mixed [] [none] (by kernel_rfl) fun G65 R65 hG65 hR65 => ?_
                try simp [h1, h1_, h3, h3_, h11, h11_, h12, h12_, h13, h13_, h14_, h14__, h15, h15_]
                repeat' apply And.intro
                any_goals (first | exact hG65 _ (by kernel_rfl) | refine hR65 _ _ _ ?_ | omega | (unfold maxLen; omega) | (simp [h1, h1_, h3, h3_, h11, h11_, h12, h12_, h13, h13_, h14_, h14__, h15, h15_]; done) | (simp [h1, h1_, h3, h3_, h11, h11_, h12, h12_, h13, h13_, h14_, h14__, h15, h15_]; omega))
                refine AW.wk [(6, AV.bool false)] [] 5 (by simp [h1, h1_, h3, h3_, h11, h11_, h12, h12_, h13, h13_, h14_, h14__, h15, h15_]) (by simp [h1, h1_, h3, h3_, h11, h11_, h12, h12_, h13, h13_, h14_, h14__, h15, h15_]) (by simp) ?_
                simp only [Option.some.injEq] at hF
                subst hF
                refine AW.ret (hQ _ _ _ ?_ (matchO_0 ?_)).1
                · simp [Try.f11, h1, h1_, h3, h3_, h11, h11_, h12, h12_, h13, h13_, h14_, h14__, h15, h15_]
                · simp [h1, h1_, h3, h3_, h11, h11_, h12, h12_, h13, h13_, h14_, h14__, h15, h15_]
              · replace hF := ite_f h15 hF
                have h15_ := h15
                try simp at h15_
                try simp [h1, h1_, h3, h3_, h11, h11_, h12, h12_, h13, h13_, h14_, h14__, h15, h15_]
                repeat' apply And.intro
                try any_goals (first | omega | (unfold maxLen; omega) | (simp [h1, h1_, h3, h3_, h11, h11_, h12, h12_, h13, h13_, h14_, h14__, h15, h15_]; done))
                obtain ⟨v18, h16, hF⟩ := bnd1_elim hF
                refine aCall_l (w_law02_sameInts k _ _ _ h16) (by simp) [] [] [] rfl (.cons (.same (by simp [h1, h1_, h3, h3_, h11, h11_, h12, h12_, h13, h13_, h14_, h14__, h15, h15_])) (.cons (.same (by simp [h1, h1_, h3, h3_, h11, h11_, h12, h12_, h13, h13_, h14_, h14__, h15, h15_])) .nil)) (by simp [h1, h1_, h3, h3_, h11, h11_, h12, h12_, h13, h13_, h14_, h14__, h15, h15_]) (by decide) (by simp) (by simp) (.inl rfl) (by simp) (by simp) ?_
                by_cases h17 : (!v18) = true
                · replace hF := ite_t h17 hF
                  have h17_ := h17
                  try simp at h17_
                  try simp [h1, h1_, h3, h3_, h11, h11_, h12, h12_, h13, h13_, h14_, h14__, h15, h15_, h17, h17_]
                  repeat' apply And.intro
                  any_goals (first | exact hG60 _ (by kernel_rfl) | refine hR60 _ _ _ ?_ | omega | (unfold maxLen; omega) | (simp [h1, h1_, h3, h3_, h11, h11_, h12, h12_, h13, h13_, h14_, h14__, h15, h15_, h17, h17_]; done) | (simp [h1, h1_, h3, h3_, h11, h11_, h12, h12_, h13, h13_, h14_, h14__, h15, h15_, h17, h17_]; omega))
                  refine AW.wk [(1, AV.str v1), (2, AV.lst false false (List.map (AV.int .i64) v2)), (9, AV.lst false false (List.map (AV.int .u8) v10)), (12, AV.lst false false (List.map (AV.int .u8) v13)), (112, AV.bool true)] [] 5 (by simp [h1, h1_, h3, h3_, h11, h11_, h12, h12_, h13, h13_, h14_, h14__, h15, h15_, h17, h17_]) (by simp [h1, h1_, h3, h3_, h11, h11_, h12, h12_, h13, h13_, h14_, h14__, h15, h15_, h17, h17_]) (by simp) ?_
                  refine AW.condT (by decide) (by simp [h1, h1_, h3, h3_, h11, h11_, h12, h12_, h13, h13_, h14_, h14__, h15, h15_, h17, h17_]) ?_
                  refine AW.seqR mixed [] [none] (by kernel_rfl) fun G66 R66 hG66 hR66 => ?_
                  try simp [h1, h1_, h3, h3_, h11, h11_, h12, h12_, h13, h13_, h14_, h14__, h15, h15_, h17, h17_]
                  repeat' apply And.intro
                  any_goals (first | exact hG66 _ (by kernel_rfl) | refine hR66 _ _ _ ?_ | omega | (unfold maxLen; omega) | (simp [h1, h1_, h3, h3_, h11, h11_, h12, h12_, h13, h13_, h14_, h14__, h15, h15_, h17, h17_]; done) | (simp [h1, h1_, h3, h3_, h11, h11_, h12, h12_, h13, h13_, h14_, h14__, h15, h15_, h17, h17_]; omega))
                  refine AW.wk [(6, AV.bool false)] [] 5 (by simp [h1, h1_, h3, h3_, h11, h11_, h12, h12_, h13, h13_, h14_, h14__, h15, h15_, h17, h17_]) (by simp [h1, h1_, h3, h3_, h11, h11_, h12, h12_, h13, h13_, h14_, h14__, h15, h15_, h17, h17_]) (by simp) ?_
                  simp only [Option.some.injEq] at hF
                  subst hF
                  refine AW.ret (hQ _ _ _ ?_ (matchO_0 ?_)).1
                  · simp [Try.f11, h1, h1_, h3, h3_, h11, h11_, h12, h12_, h13, h13_, h14_, h14__, h15, h15_, h17, h17_]
                  · simp [h1, h1_, h3, h3_, h11, h11_, h12, h12_, h13, h13_, h14_, h14__, h15, h15_, h17, h17_]
                · replace hF := ite_f h17 hF
                  have h17_ := h17
                  try simp at h17_
                  by_cases h18 : (v16.length : Int) ≠ 0
                  · replace hF := ite_t h18 hF
                    have h18_ := eqb_f h18
                    have h18__ := neb_t h18
                    try simp [h1, h1_, h3, h3_, h11, h11_, h12, h12_, h13, h13_, h14_, h14__, h15, h15_, h17, h17_, h18, h18_, h18__]
                    repeat' apply And.intro
                    any_goals (first | exact hG60 _ (by kernel_rfl) | refine hR60 _ _ _ ?_ | omega | (unfold maxLen; omega) | (simp [h1, h1_, h3, h3_, h11, h11_, h12, h12_, h13, h13_, h14_, h14__, h15, h15_, h17, h17_, h18, h18_, h18__]; done) | (simp [h1, h1_, h3, h3_, h11, h11_, h12, h12_, h13, h13_, h14_, h14__, h15, h15_, h17, h17_, h18, h18_, h18__]; omega))
                    refine AW.wk [(1, AV.str v1), (2, AV.lst false false (List.map (AV.int .i64) v2)), (9, AV.lst false false (List.map (AV.int .u8) v10)), (12, AV.lst false false (List.map (AV.int .u8) v13)), (112, AV.bool true)] [] 5 (by simp [h1, h1_, h3, h3_, h11, h11_, h12, h12_, h13, h13_, h14_, h14__, h15, h15_, h17, h17_, h18, h18_, h18__]) (by simp [h1, h1_, h3, h3_, h11, h11_, h12, h12_, h13, h13_, h14_, h14__, h15, h15_, h17, h17_, h18, h18_, h18__]) (by simp) ?_
                    refine AW.condT (by decide) (by simp [h1, h1_, h3, h3_, h11, h11_, h12, h12_, h13, h13_, h14_, h14__, h15, h15_, h17, h17_, h18, h18_, h18__]) ?_
                    refine AW.seqR mixed [] [none] (by kernel_rfl) fun G67 R67 hG67 hR67 => ?_
                    try simp [h1, h1_, h3, h3_, h11, h11_, h12, h12_, h13, h13_, h14_, h14__, h15, h15_, h17, h17_, h18, h18_, h18__]
                    repeat' apply And.intro
                    any_goals (first | exact hG67 _ (by kernel_rfl) | refine hR67 _ _ _ ?_ | omega | (unfold maxLen; omega) | (simp [h1, h1_, h3, h3_, h11, h11_, h12, h12_, h13, h13_, h14_, h14__, h15, h15_, h17, h17_, h18, h18_, h18__]; done) | (simp [h1, h1_, h3, h3_, h11, h11_, h12, h12_, h13, h13_, h14_, h14__, h15, h15_, h17, h17_, h18, h18_, h18__]; omega))
                    refine AW.wk [(6, AV.bool false)] [] 5 (by simp [h1, h1_, h3, h3_, h11, h11_, h12, h12_, h13, h13_, h14_, h14__, h15, h15_, h17, h17_, h18, h18_, h18__]) (by simp [h1, h1_, h3, h3_, h11, h11_, h12, h12_, h13, h13_, h14_, h14__, h15, h15_, h17, h17_, h18, h18_, h18__]) (by simp) ?_
                    simp only [Option.some.injEq] at hF
                    subst hF
                    refine AW.ret (hQ _ _ _ ?_ (matchO_0 ?_)).1
                    · simp [Try.f11, h1, h1_, h3, h3_, h11, h11_, h12, h12_, h13, h13_, h14_, h14__, h15, h15_, h17, h17_, h18, h18_, h18__]
                    · simp [h1, h1_, h3, h3_, h11, h11_, h12, h12_, h13, h13_, h14_, h14__, h15, h15_, h17, h17_, h18, h18_, h18__]
                  · replace hF := ite_f h18 hF
                    have h18q : (v16.length : Int) = 0 := Classical.not_not.1 h18
                    have h18_ := eqb_t h18q
                    have h18__ := neb_f h18q
                    by_cases h19 : (v13.length : Int) ≠ (IntKind.wrap .i64 (8 + IntKind.wrap .i64 (8 * (v2.length : Int))))
                    · replace hF := ite_t h19 hF
                      have h19_ := eqb_f h19
                      have h19__ := neb_t h19
                      try simp [h1, h1_, h3, h3_, h11, h11_, h12, h12_, h13, h13_, h14_, h14__, h15, h15_, h17, h17_, h18_, h18__, h18q, h19, h19_, h19__]
                      repeat' apply And.intro
                      any_goals (first | exact hG60 _ (by kernel_rfl) | refine hR60 _ _ _ ?_ | omega | (unfold maxLen; omega) | (simp [h1, h1_, h3, h3_, h11, h11_, h12, h12_, h13, h13_, h14_, h14__, h15, h15_, h17, h17_, h18_, h18__, h18q, h19, h19_, h19__]; done) | (simp [h1, h1_, h3, h3_, h11, h11_, h12, h12_, h13, h13_, h14_, h14__, h15, h15_, h17, h17_, h18_, h18__, h18q, h19, h19_, h19__]; omega))
                      refine AW.wk [(1, AV.str v1), (2, AV.lst false false (List.map (AV.int .i64) v2)), (9, AV.lst false false (List.map (AV.int .u8) v10)), (12, AV.lst false false (List.map (AV.int .u8) v13)), (112, AV.bool true)] [] 5 (by simp [h1, h1_, h3, h3_, h11, h11_, h12, h12_, h13, h13_, h14_, h14__, h15, h15_, h17, h17_, h18_, h18__, h18q, h19, h19_, h19__]) (by simp [h1, h1_, h3, h3_, h11, h11_, h12, h12_, h13, h13_, h14_, h14__, h15, h15_, h17, h17_, h18_, h18__, h18q, h19, h19_, h19__]) (by simp) ?_
                      refine AW.condT (by decide) (by simp [h1, h1_, h3, h3_, h11, h11_, h12, h12_, h13, h13_, h14_, h14__, h15, h15_, h17, h17_, h18_, h18__, h18q, h19, h19_, h19__]) ?_
                      refine AW.seqR mixed [] [none] (by kernel_rfl) fun G68 R68 hG68 hR68 => ?_
                      try simp [h1, h1_, h3, h3_, h11, h11_, h12, h12_, h13, h13_, h14_, h14__, h15, h15_, h17, h17_, h18_, h18__, h18q, h19, h19_, h19__]
                      repeat' apply And.intro
                      any_goals (first | exact hG68 _ (by kernel_rfl) | refine hR68 _ _ _ ?_ | omega | (unfold maxLen; omega) | (simp [h1, h1_, h3, h3_, h11, h11_, h12, h12_, h13, h13_, h14_, h14__, h15, h15_, h17, h17_, h18_, h18__, h18q, h19, h19_, h19__]; done) | (simp [h1, h1_, h3, h3_, h11, h11_, h12, h12_, h13, h13_, h14_, h14__, h15, h15_, h17, h17_, h18_, h18__, h18q, h19, h19_, h19__]; omega))
                      refine AW.wk [(6, AV.bool false)] [] 5 (by simp [h1, h1_, h3, h3_, h11, h11_, h12, h12_, h13, h13_, h14_, h14__, h15, h15_, h17, h17_, h18_, h18__, h18q, h19, h19_, h19__]) (by simp [h1, h1_, h3, h3_, h11, h11_, h12, h12_, h13, h13_, h14_, h14__, h15, h15_, h17, h17_, h18_, h18__, h18q, h19, h19_, h19__]) (by simp) ?_
                      simp only [Option.some.injEq] at hF
                      subst hF
                      refine AW.ret (hQ _ _ _ ?_ (matchO_0 ?_)).1
                      · simp [Try.f11, h1, h1_, h3, h3_, h11, h11_, h12, h12_, h13, h13_, h14_, h14__, h15, h15_, h17, h17_, h18_, h18__, h18q, h19, h19_, h19__]
                      · simp [h1, h1_, h3, h3_, h11, h11_, h12, h12_, h13, h13_, h14_, h14__, h15, h15_, h17, h17_, h18_, h18__, h18q, h19, h19_, h19__]
                    · replace hF := ite_f h19 hF
                      have h19q : (v13.length : Int) = (IntKind.wrap .i64 (8 + IntKind.wrap .i64 (8 * (v2.length : Int)))) := Classical.not_not.1 h19
                      have h19_ := eqb_t h19q
                      have h19__ := neb_f h19q
                      try simp [h1, h1_, h3, h3_, h11, h11_, h12, h12_, h13, h13_, h14_, h14__, h15, h15_, h17, h17_, h18_, h18__, h18q, h19_, h19__]
                      repeat' apply And.intro
                      any_goals (first | exact hG60 _ (by kernel_rfl) | refine hR60 _ _ _ ?_ | omega | (unfold maxLen; omega) | (simp [h1, h1_, h3, h3_, h11, h11_, h12, h12_, h13, h13_, h14_, h14__, h15, h15_, h17, h17_, h18_, h18__, h18q, h19_, h19__]; done) | (simp [h1, h1_, h3, h3_, h11, h11_, h12, h12_, h13, h13_, h14_, h14__, h15, h15_, h17, h17_, h18_, h18__, h18q, h19_, h19__]; omega))
                      refine AW.wk [(1, AV.str v1), (2, AV.lst false false (List.map (AV.int .i64) v2)), (9, AV.lst false false (List.map (AV.int .u8) v10)), (12, AV.lst false false (List.map (AV.int .u8) v13)), (112, AV.bool ((v8.length : Int) != (IntKind.wrap .i64 (IntKind.wrap .i64 (IntKind.wrap .i64 (16 + (v1.size : Int)) + 8) + IntKind.wrap .i64 (8 * (v2.length : Int))))))] [] 5 (by simp [h1, h1_, h3, h3_, h11, h11_, h12, h12_, h13, h13_, h14_, h14__, h15, h15_, h17, h17_, h18_, h18__, h18q, h19_, h19__]) (by simp [h1, h1_, h3, h3_, h11, h11_, h12, h12_, h13, h13_, h14_, h14__, h15, h15_, h17, h17_, h18_, h18__, h18q, h19_, h19__]) (by simp) ?_
                      by_cases h20 : (v8.length : Int) ≠ (IntKind.wrap .i64 (IntKind.wrap .i64 (IntKind.wrap .i64 (16 + (v1.size : Int)) + 8) + IntKind.wrap .i64 (8 * (v2.length : Int))))
                      · replace hF := ite_t h20 hF
                        have h20_ := eqb_f h20
                        have h20__ := neb_t h20
                        refine AW.condT (by decide) (by first | (simp [h1, h1_, h3, h3_, h11, h11_, h12, h12_, h13, h13_, h14_, h14__, h15, h15_, h17, h17_, h18_, h18__, h18q, h19_, h19__, h20, h20_, h20__]; done) | (simp [h1, h1_, h3, h3_, h11, h11_, h12, h12_, h13, h13_, h14_, h14__, h15, h15_, h17, h17_, h18_, h18__, h18q, h19_, h19__, h20, h20_, h20__]; omega)) ?_
                        refine AW.seqR mixed [] [none] (by kernel_rfl) fun G69 R69 hG69 hR69 => ?_
                        try simp [h1, h1_, h3, h3_, h11, h11_, h12, h12_, h13, h13_, h14_, h14__, h15, h15_, h17, h17_, h18_, h18__, h18q, h19_, h19__, h20, h20_, h20__]
                        repeat' apply And.intro
                        any_goals (first | exact hG69 _ (by kernel_rfl) | refine hR69 _ _ _ ?_ | omega | (unfold maxLen; omega) | (simp [h1, h1_, h3, h3_, h11, h11_, h12, h12_, h13, h13_, h14_, h14__, h15, h15_, h17, h17_, h18_, h18__, h18q, h19_, h19__, h20, h20_, h20__]; done) | (simp [h1, h1_, h3, h3_, h11, h11_, h12, h12_, h13, h13_, h14_, h14__, h15, h15_, h17, h17_, h18_, h18__, h18q, h19_, h19__, h20, h20_, h20__]; omega))
                        refine AW.wk [(6, AV.bool false)] [] 5 (by simp [h1, h1_, h3, h3_, h11, h11_, h12, h12_, h13, h13_, h14_, h14__, h15, h15_, h17, h17_, h18_, h18__, h18q, h19_, h19__, h20, h20_, h20__]) (by simp [h1, h1_, h3, h3_, h11, h11_, h12, h12_, h13, h13_, h14_, h14__, h15, h15_, h17, h17_, h18_, h18__, h18q, h19_, h19__, h20, h20_, h20__]) (by simp) ?_
                        simp only [Option.some.injEq] at hF
                        subst hF
                        refine AW.ret (hQ _ _ _ ?_ (matchO_0 ?_)).1
                        · simp [Try.f11, h1, h1_, h3, h3_, h11, h11_, h12, h12_, h13, h13_, h14_, h14__, h15, h15_, h17, h17_, h18_, h18__, h18q, h19_, h19__, h20, h20_, h20__]
                        · simp [h1, h1_, h3, h3_, h11, h11_, h12, h12_, h13, h13_, h14_, h14__, h15, h15_, h17, h17_, h18_, h18__, h18q, h19_, h19__, h20, h20_, h20__]
                      · replace hF := ite_f h20 hF
                        have h20q : (v8.length : Int) = (IntKind.wrap .i64 (IntKind.wrap .i64 (IntKind.wrap .i64 (16 + (v1.size : Int)) + 8) + IntKind.wrap .i64 (8 * (v2.length : Int)))) := Classical.not_not.1 h20
                        have h20_ := eqb_t h20q
                        have h20__ := neb_f h20q
                        refine AW.condF (by decide) (by first | (simp [h1, h1_, h3, h3_, h11, h11_, h12, h12_, h13, h13_, h14_, h14__, h15, h15_, h17, h17_, h18_, h18__, h18q, h19_, h19__, h20_, h20__]; done) | (simp [h1, h1_, h3, h3_, h11, h11_, h12, h12_, h13, h13_, h14_, h14__, h15, h15_, h17, h17_, h18_, h18__, h18q, h19_, h19__, h20_, h20__]; omega)) ?_
                        refine AW.skip ?_
                        refine hK59 _ _ _ ?_
                        refine AW.seqR mixed [] [none, none, none, none, none, none, none, none, none, none, none, none, none, none, none] (by kernel_rfl) fun G70 R70 hG70 hR70 => ?_
                        obtain ⟨⟨h21, h22⟩, hF⟩ := chk_elim hF
                        have h21_ := h21
                        try simp at h21_
                        have h22_ := h22
                        try simp at h22_
                        try simp [h1, h1_, h3, h3_, h11, h11_, h12, h12_, h13, h13_, h14_, h14__, h15, h15_, h17, h17_, h18_, h18__, h18q, h19_, h19__, h20_, h20__, h21, h22, h21_, h22_]
                        repeat' apply And.intro
                        try any_goals (first | omega | (unfold maxLen; omega) | (simp [h1, h1_, h3, h3_, h11, h11_, h12, h12_, h13, h13_, h14_, h14__, h15, h15_, h17, h17_, h18_, h18__, h18q, h19_, h19__, h20_, h20__, h21, h22, h21_, h22_]; done))
                        obtain ⟨v19, v20, v21, h23, hF⟩ := bnd3_elim hF
                        refine aCall_l (w_wire_TakeInts k _ _ _ _ _ h23) (by simp) [] [] [] rfl (.cons (.same (by simp [h1, h1_, h3, h3_, h11, h11_, h12, h12_, h13, h13_, h14_, h14__, h15, h15_, h17, h17_, h18_, h18__, h18q, h19_, h19__, h20_, h20__, h21, h22, h21_, h22_])) (.cons (.same (by simp [h1, h1_, h3, h3_, h11, h11_, h12, h12_, h13, h13_, h14_, h14__, h15, h15_, h17, h17_, h18_, h18__, h18q, h19_, h19__, h20_, h20__, h21, h22, h21_, h22_])) .nil)) (by simp [h1, h1_, h3, h3_, h11, h11_, h12, h12_, h13, h13_, h14_, h14__, h15, h15_, h17, h17_, h18_, h18__, h18q, h19_, h19__, h20_, h20__, h21, h22, h21_, h22_]) (by decide) (by simp) (by simp) (.inl rfl) (by simp) (by simp) ?_
                        try simp [h1, h1_, h3, h3_, h11, h11_, h12, h12_, h13, h13_, h14_, h14__, h15, h15_, h17, h17_, h18_, h18__, h18q, h19_, h19__, h20_, h20__, h21, h22, h21_, h22_]
                        repeat' apply And.intro
                        any_goals (first | exact hG70 _ (by kernel_rfl) | refine hR70 _ _ _ ?_ | omega | (unfold maxLen; omega) | (simp [h1, h1_, h3, h3_, h11, h11_, h12, h12_, h13, h13_, h14_, h14__, h15, h15_, h17, h17_, h18_, h18__, h18q, h19_, h19__, h20_, h20__, h21, h22, h21_, h22_]; done) | (simp [h1, h1_, h3, h3_, h11, h11_, h12, h12_, h13, h13_, h14_, h14__, h15, h15_, h17, h17_, h18_, h18__, h18q, h19_, h19__, h20_, h20__, h21, h22, h21_, h22_]; omega))
                        refine AW.wk [(1, AV.str v1), (9, AV.lst false false (List.map (AV.int .u8) v10)), (19, AV.bool v21)] [] 6 (by simp [h1, h1_, h3, h3_, h11, h11_, h12, h12_, h13, h13_, h14_, h14__, h15, h15_, h17, h17_, h18_, h18__, h18q, h19_, h19__, h20_, h20__, h21, h22, h21_, h22_]) (by simp [h1, h1_, h3, h3_, h11, h11_, h12, h12_, h13, h13_, h14_, h14__, h15, h15_, h17, h17_, h18_, h18__, h18q, h19_, h19__, h20_, h20__, h21, h22, h21_, h22_]) (by simp) ?_
                        refine AW.seqR mixed [] [none, none, none, none, none, none, none, none, none, none, none, none] (by kernel_rfl) fun G71 R71 hG71 hR71 => ?_
                        try simp [h1, h1_, h3, h3_, h11, h11_, h12, h12_, h13, h13_, h14_, h14__, h15, h15_, h17, h17_, h18_, h18__, h18q, h19_, h19__, h20_, h20__, h21, h22, h21_, h22_]
                        repeat' apply And.intro
                        try any_goals (first | omega | (unfold maxLen; omega) | (simp [h1, h1_, h3, h3_, h11, h11_, h12, h12_, h13, h13_, h14_, h14__, h15, h15_, h17, h17_, h18_, h18__, h18q, h19_, h19__, h20_, h20__, h21, h22, h21_, h22_]; done))
                        obtain ⟨v22, v23, v24, h24, hF⟩ := bnd3_elim hF
                        refine aCall_l (w_wire_TakeText k _ _ _ _ _ h24) (by simp) [] [] [] rfl (.cons (.same (by simp [h1, h1_, h3, h3_, h11, h11_, h12, h12_, h13, h13_, h14_, h14__, h15, h15_, h17, h17_, h18_, h18__, h18q, h19_, h19__, h20_, h20__, h21, h22, h21_, h22_])) (.cons (.same (by simp [h1, h1_, h3, h3_, h11, h11_, h12, h12_, h13, h13_, h14_, h14__, h15, h15_, h17, h17_, h18_, h18__, h18q, h19_, h19__, h20_, h20__, h21, h22, h21_, h22_])) .nil)) (by simp [h1, h1_, h3, h3_, h11, h11_, h12, h12_, h13, h13_, h14_, h14__, h15, h15_, h17, h17_, h18_, h18__, h18q, h19_, h19__, h20_, h20__, h21, h22, h21_, h22_]) (by decide) (by simp) (by simp) (.inl rfl) (by simp) (by simp) ?_
                        try simp [h1, h1_, h3, h3_, h11, h11_, h12, h12_, h13, h13_, h14_, h14__, h15, h15_, h17, h17_, h18_, h18__, h18q, h19_, h19__, h20_, h20__, h21, h22, h21_, h22_]
                        repeat' apply And.intro
                        any_goals (first | exact hG71 _ (by kernel_rfl) | refine hR71 _ _ _ ?_ | omega | (unfold maxLen; omega) | (simp [h1, h1_, h3, h3_, h11, h11_, h12, h12_, h13, h13_, h14_, h14__, h15, h15_, h17, h17_, h18_, h18__, h18q, h19_, h19__, h20_, h20__, h21, h22, h21_, h22_]; done) | (simp [h1, h1_, h3, h3_, h11, h11_, h12, h12_, h13, h13_, h14_, h14__, h15, h15_, h17, h17_, h18_, h18__, h18q, h19_, h19__, h20_, h20__, h21, h22, h21_, h22_]; omega))
                        refine AW.wk [(19, AV.bool v21), (22, AV.bool v24)] [] 6 (by simp [h1, h1_, h3, h3_, h11, h11_, h12, h12_, h13, h13_, h14_, h14__, h15, h15_, h17, h17_, h18_, h18__, h18q, h19_, h19__, h20_, h20__, h21, h22, h21_, h22_]) (by simp [h1, h1_, h3, h3_, h11, h11_, h12, h12_, h13, h13_, h14_, h14__, h15, h15_, h17, h17_, h18_, h18__, h18q, h19_, h19__, h20_, h20__, h21, h22, h21_, h22_]) (by simp) ?_
                        refine AW.seqR mixed [] [none, none, some (135, true), some (135, true), none, none, some (139, true), some (139, true), none, none] (by kernel_rfl) fun G72 R72 hG72 hR72 => ?_
                        try simp [h1, h1_, h3, h3_, h11, h11_, h12, h12_, h13, h13_, h14_, h14__, h15, h15_, h17, h17_, h18_, h18__, h18q, h19_, h19__, h20_, h20__, h21, h22, h21_, h22_]
                        repeat' apply And.intro
                        try any_goals (first | omega | (unfold maxLen; omega) | (simp [h1, h1_, h3, h3_, h11, h11_, h12, h12_, h13, h13_, h14_, h14__, h15, h15_, h17, h17_, h18_, h18__, h18q, h19_, h19__, h20_, h20__, h21, h22, h21_, h22_]; done))
                        obtain ⟨v25, h25, hF⟩ := bnd1_elim hF
                        refine aCall_l (w_law02_awake k _ h25) (by simp) [] [] [] rfl .nil (by simp [h1, h1_, h3, h3_, h11, h11_, h12, h12_, h13, h13_, h14_, h14__, h15, h15_, h17, h17_, h18_, h18__, h18q, h19_, h19__, h20_, h20__, h21, h22, h21_, h22_]) (by decide) (by simp) (by simp) (.inl rfl) (by simp) (by simp) ?_
                        by_cases h26 : v25 = true
                        · replace hF := ite_t h26 hF
                          have h26_ := h26
                          try simp at h26_
                          by_cases h27 : (!v21) = true
                          · replace hF := ite_t h27 hF
                            have h27_ := h27
                            try simp at h27_
                            try simp [h1, h1_, h3, h3_, h11, h11_, h12, h12_, h13, h13_, h14_, h14__, h15, h15_, h17, h17_, h18_, h18__, h18q, h19_, h19__, h20_, h20__, h21, h22, h21_, h22_, h26, h26_, h27, h27_]
                            repeat' apply And.intro
                            any_goals (first | exact hG72 _ (by kernel_rfl) | refine hR72 _ _ _ ?_ | omega | (unfold maxLen; omega) | (simp [h1, h1_, h3, h3_, h11, h11_, h12, h12_, h13, h13_, h14_, h14__, h15, h15_, h17, h17_, h18_, h18__, h18q, h19_, h19__, h20_, h20__, h21, h22, h21_, h22_, h26, h26_, h27, h27_]; done) | (simp [h1, h1_, h3, h3_, h11, h11_, h12, h12_, h13, h13_, h14_, h14__, h15, h15_, h17, h17_, h18_, h18__, h18q, h19_, h19__, h20_, h20__, h21, h22, h21_, h22_, h26, h26_, h27, h27_]; omega))
                            refine AW.wk [(6, AV.bool (!v24))] [] 6 (by simp [h1, h1_, h3, h3_, h11, h11_, h12, h12_, h13, h13_, h14_, h14__, h15, h15_, h17, h17_, h18_, h18__, h18q, h19_, h19__, h20_, h20__, h21, h22, h21_, h22_, h26, h26_, h27, h27_]) (by simp [h1, h1_, h3, h3_, h11, h11_, h12, h12_, h13, h13_, h14_, h14__, h15, h15_, h17, h17_, h18_, h18__, h18q, h19_, h19__, h20_, h20__, h21, h22, h21_, h22_, h26, h26_, h27, h27_]) (by simp) ?_
                            simp only [Option.some.injEq] at hF
                            subst hF
                            refine AW.ret (hQ _ _ _ ?_ (matchO_0 ?_)).1
                            · simp [Try.f11, h1, h1_, h3, h3_, h11, h11_, h12, h12_, h13, h13_, h14_, h14__, h15, h15_, h17, h17_, h18_, h18__, h18q, h19_, h19__, h20_, h20__, h21, h22, h21_, h22_, h26, h26_, h27, h27_]
                            · simp [h1, h1_, h3, h3_, h11, h11_, h12, h12_, h13, h13_, h14_, h14__, h15, h15_, h17, h17_, h18_, h18__, h18q, h19_, h19__, h20_, h20__, h21, h22, h21_, h22_, h26, h26_, h27, h27_]
                          · replace hF := ite_f h27 hF
                            have h27_ := h27
                            try simp at h27_
                            try simp [h1, h1_, h3, h3_, h11, h11_, h12, h12_, h13, h13_, h14_, h14__, h15, h15_, h17, h17_, h18_, h18__, h18q, h19_, h19__, h20_, h20__, h21, h22, h21_, h22_, h26, h26_, h27, h27_]
                            repeat' apply And.intro
                            any_goals (first | exact hG72 _ (by kernel_rfl) | refine hR72 _ _ _ ?_ | omega | (unfold maxLen; omega) | (simp [h1, h1_, h3, h3_, h11, h11_, h12, h12_, h13, h13_, h14_, h14__, h15, h15_, h17, h17_, h18_, h18__, h18q, h19_, h19__, h20_, h20__, h21, h22, h21_, h22_, h26, h26_, h27, h27_]; done) | (simp [h1, h1_, h3, h3_, h11, h11_, h12, h12_, h13, h13_, h14_, h14__, h15, h15_, h17, h17_, h18_, h18__, h18q, h19_, h19__, h20_, h20__, h21, h22, h21_, h22_, h26, h26_, h27, h27_]; omega))
                            refine AW.wk [(6, AV.bool false)] [] 6 (by simp [h1, h1_, h3, h3_, h11, h11_, h12, h12_, h13, h13_, h14_, h14__, h15, h15_, h17, h17_, h18_, h18__, h18q, h19_, h19__, h20_, h20__, h21, h22, h21_, h22_, h26, h26_, h27, h27_]) (by simp [h1, h1_, h3, h3_, h11, h11_, h12, h12_, h13, h13_, h14_, h14__, h15, h15_, h17, h17_, h18_, h18__, h18q, h19_, h19__, h20_, h20__, h21, h22, h21_, h22_, h26, h26_, h27, h27_]) (by simp) ?_
                            simp only [Option.some.injEq] at hF
                            subst hF
                            refine AW.ret (hQ _ _ _ ?_ (matchO_0 ?_)).1
                            · simp [Try.f11, h1, h1_, h3, h3_, h11, h11_, h12, h12_, h13, h13_, h14_, h14__, h15, h15_, h17, h17_, h18_, h18__, h18q, h19_, h19__, h20_, h20__, h21, h22, h21_, h22_, h26, h26_, h27, h27_]
                            · simp [h1, h1_, h3, h3_, h11, h11_, h12, h12_, h13, h13_, h14_, h14__, h15, h15_, h17, h17_, h18_, h18__, h18q, h19_, h19__, h20_, h20__, h21, h22, h21_, h22_, h26, h26_, h27, h27_]
                        · replace hF := ite_f h26 hF
                          have h26_ := h26
                          try simp at h26_
                          try simp [h1, h1_, h3, h3_, h11, h11_, h12, h12_, h13, h13_, h14_, h14__, h15, h15_, h17, h17_, h18_, h18__, h18q, h19_, h19__, h20_, h20__, h21, h22, h21_, h22_, h26, h26_]
                          repeat' apply And.intro
                          any_goals (first | exact hG72 _ (by kernel_rfl) | refine hR72 _ _ _ ?_ | omega | (unfold maxLen; omega) | (simp [h1, h1_, h3, h3_, h11, h11_, h12, h12_, h13, h13_, h14_, h14__, h15, h15_, h17, h17_, h18_, h18__, h18q, h19_, h19__, h20_, h20__, h21, h22, h21_, h22_, h26, h26_]; done) | (simp [h1, h1_, h3, h3_, h11, h11_, h12, h12_, h13, h13_, h14_, h14__, h15, h15_, h17, h17_, h18_, h18__, h18q, h19_, h19__, h20_, h20__, h21, h22, h21_, h22_, h26, h26_]; omega))
                          refine AW.wk [(6, AV.bool false)] [] 6 (by simp [h1, h1_, h3, h3_, h11, h11_, h12, h12_, h13, h13_, h14_, h14__, h15, h15_, h17, h17_, h18_, h18__, h18q, h19_, h19__, h20_, h20__, h21, h22, h21_, h22_, h26, h26_]) (by simp [h1, h1_, h3, h3_, h11, h11_, h12, h12_, h13, h13_, h14_, h14__, h15, h15_, h17, h17_, h18_, h18__, h18q, h19_, h19__, h20_, h20__, h21, h22, h21_, h22_, h26, h26_]) (by simp) ?_
                          simp only [Option.some.injEq] at hF
                          subst hF
                          refine AW.ret (hQ _ _ _ ?_ (matchO_0 ?_)).1
                          · simp [Try.f11, h1, h1_, h3, h3_, h11, h11_, h12, h12_, h13, h13_, h14_, h14__, h15, h15_, h17, h17_, h18_, h18__, h18q, h19_, h19__, h20_, h20__, h21, h22, h21_, h22_, h26, h26_]
                          · simp [h1, h1_, h3, h3_, h11, h11_, h12, h12_, h13, h13_, h14_, h14__, h15, h15_, h17, h17_, h18_, h18__, h18q, h19_, h19__, h20_, h20__, h21, h22, h21_, h22_, h26, h26_]
end Go.TF
