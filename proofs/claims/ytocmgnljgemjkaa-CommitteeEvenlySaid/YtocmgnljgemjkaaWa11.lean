/- Walks: the Go text computes the Lean functions (printed by a program of our own). -/
import Derived.Test.YtocmgnljgemjkaaPu
import Derived.Test.YtocmgnljgemjkaaAbsT
import Derived.Test.YtocmgnljgemjkaaWa0
import Derived.Test.YtocmgnljgemjkaaWa4
set_option linter.unusedVariables false
set_option linter.unusedSimpArgs false
set_option maxRecDepth 100000
namespace Go.TF
open Go Go.Abs Go.Proofs Go.Proofs.YtocmgnljgemjkaaT
set_option maxHeartbeats 4000000 in
theorem w_ref02_rest (k : Nat) (v0 : (List Int)) (v1 : (List Int)) (hF : ref02_rest k v0 = some v1) :
    FCall Try.prog 97 [AV.lst false false (List.map (AV.int .u8) v0)] [] (AV.slc 0 0 1 v1.length false) [some (.grow (List.map (AV.int .u8) v1))] := by
  unfold ref02_rest at hF
  refine FCall.enter Try.func97 rfl (by simp) (by decide) (by simp) (by simp) (by simp) (by simp) (by simp) ?_
  intro c0 w0 Q h0 hQ
  refine AW.wk [(0, AV.lst false false (List.map (AV.int .u8) v0))] [] 0 (by simp) (by simp) (by simp) ?_
  refine AW.seqR mixed [] [none] (by kernel_rfl) fun G3 R3 hG3 hR3 => ?_
  try simp
  repeat' apply And.intro
  any_goals (first | exact hG3 _ (by kernel_rfl) | refine hR3 _ _ _ ?_ | omega | (unfold maxLen; omega) | (simp; done) | (simp; omega))
  refine AW.wk [(0, AV.lst false false (List.map (AV.int .u8) v0))] [] 0 (by simp) (by simp) (by simp) ?_
  refine AW.seqR mixed [4] [none, none, none] (by kernel_rfl) fun G4 R4 hG4 hR4 => ?_
  obtain ⟨h1, hF⟩ := chk_elim hF
  have h1_ := h1
  try simp at h1_
  try simp [h1]
  repeat' apply And.intro
  any_goals (first | exact hG4 _ (by kernel_rfl) | refine hR4 _ _ _ ?_ | omega | (unfold maxLen; omega) | (simp [h1]; done) | (simp [h1]; omega))
  refine AW.wk [(2, AV.slc 0 0 1 v0.length false)] [(0, .grow (List.map (AV.int .u8) v0))] 1 (by simp [h1]) (by simp [h1]) (by simp) ?_
  simp only [Option.some.injEq] at hF
  subst hF
  refine AW.ret (hQ _ _ _ ?_ (matchO_0 ?_)).1
  · simp [Try.f97, h1]
  · simp [h1]
set_option maxHeartbeats 4000000 in
theorem w_ref02_TakeInt (k : Nat) (v0 : (List Int)) (v1 : Int) (v2 : (List Int)) (v3 : Bool) (hF : ref02_TakeInt k v0 = some (v1, v2, v3)) :
    FCall Try.prog 80 [AV.lst false false (List.map (AV.int .u8) v0)] [] (AV.tup [AV.int .i64 v1, AV.slc 0 0 1 v2.length false, AV.bool v3]) [some (.grow (List.map (AV.int .u8) v2))] := by
  unfold ref02_TakeInt at hF
  refine FCall.enter Try.func80 rfl (by simp) (by decide) (by simp) (by simp) (by simp) (by simp) (by simp) ?_
  intro c0 w0 Q h0 hQ
  refine AW.wk [(0, AV.lst false false (List.map (AV.int .u8) v0))] [] 0 (by simp) (by simp) (by simp) ?_
  refine AW.seqR mixed [] [none, none, none] (by kernel_rfl) fun G56 R56 hG56 hR56 => ?_
  try simp
  repeat' apply And.intro
  any_goals (first | exact hG56 _ (by kernel_rfl) | refine hR56 _ _ _ ?_ | omega | (unfold maxLen; omega) | (simp; done) | (simp; omega))
  refine AW.wk [(0, AV.lst false false (List.map (AV.int .u8) v0))] [] 0 (by simp) (by simp) (by simp) ?_
  refine AW.seq fun K59 hK59 => ?_
  refine AW.seqR mixed [] [none, none, none] (by kernel_rfl) fun G60 R60 hG60 hR60 => ?_
  try simp
  repeat' apply And.intro
  any_goals (first | exact hG60 _ (by kernel_rfl) | refine hR60 _ _ _ ?_ | omega | (unfold maxLen; omega) | (simp; done) | (simp; omega))
  refine AW.wk [(0, AV.lst false false (List.map (AV.int .u8) v0)), (9, AV.bool (decide ((v0.length : Int) < 8)))] [] 0 (by simp) (by simp) (by simp) ?_
  by_cases h1 : (v0.length : Int) < 8
  · replace hF := ite_t h1 hF
    have h1_ := h1
    try simp at h1_
    refine AW.condT (by decide) (by first | (simp [h1, h1_]; done) | (simp [h1, h1_]; omega)) ?_
    refine AW.seqR mixed [] [none, none, none] (by kernel_rfl) fun G61 R61 hG61 hR61 => ?_
    try simp [h1, h1_]
    repeat' apply And.intro
    any_goals (first | exact hG61 _ (by kernel_rfl) | refine hR61 _ _ _ ?_ | omega | (unfold maxLen; omega) | (simp [h1, h1_]; done) | (simp [h1, h1_]; omega))
    refine AW.wk [(2, AV.int .i64 0), (3, AV.lst true true (List.map (AV.int .u8) ([] : List Int))), (4, AV.bool false)] [] 0 (by simp [h1, h1_]) (by simp [h1, h1_]) (by simp) ?_
    refine AW.own' 3 1 true (by simp [h1, h1_]) (by decide) ?_
    simp only [Option.some.injEq, Prod.mk.injEq] at hF
    obtain ⟨e0, e1, e2⟩ := hF
    subst e0 e1 e2
    refine AW.ret (hQ _ _ _ ?_ (matchO_0 ?_)).1
    · simp [Try.f80, h1, h1_]
    · simp [h1, h1_]
  · replace hF := ite_f h1 hF
    have h1_ := h1
    try simp at h1_
    refine AW.condF (by decide) (by first | (simp [h1, h1_]; done) | (simp [h1, h1_]; omega)) ?_
    refine AW.skip ?_
    refine hK59 _ _ _ ?_
    refine AW.seqR mixed [] [none] (by kernel_rfl) fun G62 R62 hG62 hR62 => ?_
    try simp [h1, h1_]
    repeat' apply And.intro
    any_goals (first | exact hG62 _ (by kernel_rfl) | refine hR62 _ _ _ ?_ | omega | (unfold maxLen; omega) | (simp [h1, h1_]; done) | (simp [h1, h1_]; omega))
    refine AW.wk [(0, AV.lst false false (List.map (AV.int .u8) v0)), (5, AV.int .u64 0)] [] 0 (by simp [h1, h1_]) (by simp [h1, h1_]) (by simp) ?_
    refine AW.seq fun K86 hK86 => ?_
    refine AW.seqR mixed [] [none] (by kernel_rfl) fun G87 R87 hG87 hR87 => ?_
    try simp [h1, h1_]
    repeat' apply And.intro
    any_goals (first | exact hG87 _ (by kernel_rfl) | refine hR87 _ _ _ ?_ | omega | (unfold maxLen; omega) | (simp [h1, h1_]; done) | (simp [h1, h1_]; omega))
    refine AW.wk [(0, AV.lst false false (List.map (AV.int .u8) v0)), (5, AV.int .u64 0), (6, AV.int .i64 0)] [] 0 (by simp [h1, h1_]) (by simp [h1, h1_]) (by simp) ?_
    refine AW.block ?_
    refine AW.loopF (α := (Int × Int)) (fun n (v4, v5) => ref02_TakeInt.L1 k v0 n v4 v5 = some (v1, v2, v3)) (fun (v4, v5) => [(0, AV.lst false false (List.map (AV.int .u8) v0)), (5, AV.int .u64 v4), (6, AV.int .i64 v5)]) (fun (v4, v5) => []) 0 k ((0, 0)) hF (by simp [h1, h1_]) (by simp [h1, h1_]) (by simp) ?_
    rintro (_|n1) ⟨v4, v5⟩ hF K102 hK102
    · try dsimp only at hF
      rw [ref02_TakeInt.L1] at hF; cases hF
    try dsimp only at hF
    rw [ref02_TakeInt.L1] at hF
    refine AW.seq fun K104 hK104 => ?_
    refine AW.seqR mixed [] [none, none] (by kernel_rfl) fun G105 R105 hG105 hR105 => ?_
    try simp [h1, h1_]
    repeat' apply And.intro
    any_goals (first | exact hG105 _ (by kernel_rfl) | refine hR105 _ _ _ ?_ | omega | (unfold maxLen; omega) | (simp [h1, h1_]; done) | (simp [h1, h1_]; omega))
    refine AW.wk [(0, AV.lst false false (List.map (AV.int .u8) v0)), (5, AV.int .u64 v4), (6, AV.int .i64 v5), (11, AV.bool (decide (v5 < 8)))] [] 0 (by simp [h1, h1_]) (by simp [h1, h1_]) (by simp) ?_
    by_cases h2 : v5 < 8
    · replace hF := ite_t h2 hF
      have h2_ := h2
      try simp at h2_
      refine AW.condT (by decide) (by first | (simp [h1, h1_, h2, h2_]; done) | (simp [h1, h1_, h2, h2_]; omega)) ?_
      refine AW.skip ?_
      refine hK104 _ _ _ ?_
      refine AW.seq fun K107 hK107 => ?_
      refine AW.block ?_
      refine AW.region mixed [] [none, none, none, none, none, none, none, none, none] (by kernel_rfl) fun G108 R108 hG108 hR108 => ?_
      obtain ⟨v6, h3, h4, h5, hF⟩ := idx_elim hF
      have h5_ := get_of h5
      try simp at h5_
      have h4_ := h4
      try simp at h4_
      try simp [h1, h1_, h2, h2_, h3, h4, h5, h5_, h4_]
      repeat' apply And.intro
      any_goals (first | exact hG108 _ (by kernel_rfl) | refine hR108 _ _ _ ?_ | omega | (unfold maxLen; omega) | (simp [h1, h1_, h2, h2_, h3, h4, h5, h5_, h4_]; done) | (simp [h1, h1_, h2, h2_, h3, h4, h5, h5_, h4_]; omega))
      refine hK107 _ _ _ ?_
      refine AW.wk [(0, AV.lst false false (List.map (AV.int .u8) v0)), (5, AV.int .u64 (bitsV .or .u64 (IntKind.wrap .u64 (v4 * 2 ^ (8))) (IntKind.wrap .u64 v6))), (6, AV.int .i64 v5)] [] 0 (by simp [h1, h1_, h2, h2_, h3, h4, h5, h5_, h4_]) (by simp [h1, h1_, h2, h2_, h3, h4, h5, h5_, h4_]) (by simp) ?_
      refine AW.region mixed [] [none, none, none] (by kernel_rfl) fun G109 R109 hG109 hR109 => ?_
      try simp [h1, h1_, h2, h2_, h3, h4, h5, h5_, h4_]
      repeat' apply And.intro
      any_goals (first | exact hG109 _ (by kernel_rfl) | refine hR109 _ _ _ ?_ | omega | (unfold maxLen; omega) | (simp [h1, h1_, h2, h2_, h3, h4, h5, h5_, h4_]; done) | (simp [h1, h1_, h2, h2_, h3, h4, h5, h5_, h4_]; omega))
      refine hK102 _ _ _ ?_
      refine Can.weak [(0, AV.lst false false (List.map (AV.int .u8) v0)), (5, AV.int .u64 (bitsV .or .u64 (IntKind.wrap .u64 (v4 * 2 ^ (8))) (IntKind.wrap .u64 v6))), (6, AV.int .i64 (IntKind.wrap .i64 (v5 + 1)))] [] 0 (by simp [h1, h1_, h2, h2_, h3, h4, h5, h5_, h4_]) (by simp [h1, h1_, h2, h2_, h3, h4, h5, h5_, h4_]) (by simp) ?_
      exact Can.next (k' := n1) ((bitsV .or .u64 (IntKind.wrap .u64 (v4 * 2 ^ (8))) (IntKind.wrap .u64 v6), IntKind.wrap .i64 (v5 + 1))) (by omega) hF (by simp [h1, h1_, h2, h2_, h3, h4, h5, h5_, h4_]) (by simp [h1, h1_, h2, h2_, h3, h4, h5, h5_, h4_]) (by simp)
    · replace hF := ite_f h2 hF
      have h2_ := h2
      try simp at h2_
      refine AW.condF (by decide) (by first | (simp [h1, h1_, h2, h2_]; done) | (simp [h1, h1_, h2, h2_]; omega)) ?_
      refine AW.exit ?_
      try simp
      refine hK86 _ _ _ ?_
      refine AW.seqR mixed [] [none, none, none, none, none, none, none, none] (by kernel_rfl) fun G110 R110 hG110 hR110 => ?_
      obtain ⟨h6, hF⟩ := chk_elim hF
      have h6_ := h6
      try simp at h6_
      try simp [h1, h1_, h2, h2_, h6, h6_]
      repeat' apply And.intro
      try any_goals (first | omega | (unfold maxLen; omega) | (simp [h1, h1_, h2, h2_, h6, h6_]; done))
      obtain ⟨v7, h7, hF⟩ := bnd1_elim hF
      refine aCall_l (w_ref02_rest k _ _ h7) (by simp) [] [] [] rfl (.cons (.same (by simp [h1, h1_, h2, h2_, h6, h6_])) .nil) (by simp [h1, h1_, h2, h2_, h6, h6_]) (by decide) (by simp) (by simp) (.inl rfl) (by simp) (by simp) ?_
      try simp [h1, h1_, h2, h2_, h6, h6_]
      repeat' apply And.intro
      any_goals (first | exact hG110 _ (by kernel_rfl) | refine hR110 _ _ _ ?_ | omega | (unfold maxLen; omega) | (simp [h1, h1_, h2, h2_, h6, h6_]; done) | (simp [h1, h1_, h2, h2_, h6, h6_]; omega))
      refine AW.wk [(2, AV.int .i64 (IntKind.wrap .i64 v4)), (3, AV.slc 0 0 1 v7.length false), (4, AV.bool true)] [(0, .grow (List.map (AV.int .u8) v7))] 1 (by simp [h1, h1_, h2, h2_, h6, h6_]) (by simp [h1, h1_, h2, h2_, h6, h6_]) (by simp) ?_
      simp only [Option.some.injEq, Prod.mk.injEq] at hF
      obtain ⟨e0, e1, e2⟩ := hF
      subst e0 e1 e2
      refine AW.ret (hQ _ _ _ ?_ (matchO_0 ?_)).1
      · simp [Try.f80, h1, h1_, h2, h2_, h6, h6_]
      · simp [h1, h1_, h2, h2_, h6, h6_]
set_option maxHeartbeats 4000000 in
theorem w_ref02_TakeText (k : Nat) (v0 : (List Int)) (v1 : Int) (v2 : ByteArray) (v3 : (List Int)) (v4 : Bool) (hF : ref02_TakeText k v0 v1 = some (v2, v3, v4)) :
    FCall Try.prog 81 [AV.lst false false (List.map (AV.int .u8) v0), AV.int .i64 v1] [] (AV.tup [AV.str v2, AV.slc 0 0 1 v3.length false, AV.bool v4]) [some (.grow (List.map (AV.int .u8) v3))] := by
  unfold ref02_TakeText at hF
  refine FCall.enter Try.func81 rfl (by simp) (by decide) (by simp) (by simp) (by simp) (by simp) (by simp) ?_
  intro c0 w0 Q h0 hQ
  refine AW.wk [(0, AV.lst false false (List.map (AV.int .u8) v0)), (1, AV.int .i64 v1)] [] 0 (by simp) (by simp) (by simp) ?_
  refine AW.seqR mixed [] [none, none, none] (by kernel_rfl) fun G15 R15 hG15 hR15 => ?_
  try simp
  repeat' apply And.intro
  any_goals (first | exact hG15 _ (by kernel_rfl) | refine hR15 _ _ _ ?_ | omega | (unfold maxLen; omega) | (simp; done) | (simp; omega))
  refine AW.wk [(0, AV.lst false false (List.map (AV.int .u8) v0)), (1, AV.int .i64 v1)] [] 0 (by simp) (by simp) (by simp) ?_
  refine AW.seqR mixed [] [none, none, none, none, none, none, none, none, none] (by kernel_rfl) fun G16 R16 hG16 hR16 => ?_
  try simp
  repeat' apply And.intro
  try any_goals (first | omega | (unfold maxLen; omega) | (simp; done))
  obtain ⟨v5, v6, v7, h1, hF⟩ := bnd3_elim hF
  refine aCall_l (w_ref02_TakeInt k _ _ _ _ h1) (by simp) [] [] [] rfl (.cons (.same (by simp)) .nil) (by simp) (by decide) (by simp) (by simp) (.inl rfl) (by simp) (by simp) ?_
  try simp
  repeat' apply And.intro
  any_goals (first | exact hG16 _ (by kernel_rfl) | refine hR16 _ _ _ ?_ | omega | (unfold maxLen; omega) | (simp; done) | (simp; omega))
  refine AW.wk [(0, AV.slc 0 0 1 v6.length false), (1, AV.int .i64 v1), (7, AV.int .i64 v5), (8, AV.bool v7)] [(0, .grow (List.map (AV.int .u8) v6))] 1 (by simp) (by simp) (by simp) ?_
  refine AW.frz 0 (o := .grow (List.map (AV.int .u8) v6)) (by simp) rfl [(0, AV.lst false false (List.map (AV.int .u8) v6))] [] ⟨(.l (by simp) (by simp) (by simp) (by simp)), trivial⟩ trivial ?_
  refine AW.wk [(0, AV.lst false false (List.map (AV.int .u8) v6)), (1, AV.int .i64 v1), (7, AV.int .i64 v5), (8, AV.bool v7)] [] 1 (by simp) (by simp) (by simp) ?_
  refine AW.seq fun K22 hK22 => ?_
  refine AW.seqR mixed [] [none, none, none, some (17, false), some (17, false), none, none, some (21, false), some (21, false), some (21, false), none, none, some (26, false), some (26, false), some (26, false), some (26, false), none] (by kernel_rfl) fun G23 R23 hG23 hR23 => ?_
  by_cases h2 : (!v7) = true
  · replace hF := ite_t h2 hF
    have h2_ := h2
    try simp at h2_
    try simp [h2, h2_]
    repeat' apply And.intro
    any_goals (first | exact hG23 _ (by kernel_rfl) | refine hR23 _ _ _ ?_ | omega | (unfold maxLen; omega) | (simp [h2, h2_]; done) | (simp [h2, h2_]; omega))
    refine AW.wk [(0, AV.lst false false (List.map (AV.int .u8) v6)), (7, AV.int .i64 v5), (31, AV.bool true)] [] 1 (by simp [h2, h2_]) (by simp [h2, h2_]) (by simp) ?_
    refine AW.condT (by decide) (by simp [h2, h2_]) ?_
    refine AW.seqR mixed [] [none, none, none] (by kernel_rfl) fun G24 R24 hG24 hR24 => ?_
    try simp [h2, h2_]
    repeat' apply And.intro
    any_goals (first | exact hG24 _ (by kernel_rfl) | refine hR24 _ _ _ ?_ | omega | (unfold maxLen; omega) | (simp [h2, h2_]; done) | (simp [h2, h2_]; omega))
    refine AW.wk [(4, AV.str (ByteArray.mk #[])), (5, AV.lst true true (List.map (AV.int .u8) ([] : List Int))), (6, AV.bool false)] [] 1 (by simp [h2, h2_]) (by simp [h2, h2_]) (by simp) ?_
    refine AW.own' 5 1 true (by simp [h2, h2_]) (by decide) ?_
    refine AW.rnm (m := 0) h0 [(0, 1)] [(4, AV.str (ByteArray.mk #[])), (5, AV.slc 0 0 1 (([] : List Int).length) false), (6, AV.bool false)] [(0, .grow (List.map (AV.int .u8) ([] : List Int)))] 1 (by decide) (by decide) (by decide) rfl (by simp [h2, h2_]) (by simp [h2, h2_]) ?_
    simp only [Option.some.injEq, Prod.mk.injEq] at hF
    obtain ⟨e0, e1, e2⟩ := hF
    subst e0 e1 e2
    refine AW.ret (hQ _ _ _ ?_ (matchO_0 ?_)).1
    · simp [Try.f81, h2, h2_]
    · simp [h2, h2_]
  · replace hF := ite_f h2 hF
    have h2_ := h2
    try simp at h2_
    by_cases h3 : v5 < 0
    · replace hF := ite_t h3 hF
      have h3_ := h3
      try simp at h3_
      try simp [h2, h2_, h3, h3_]
      repeat' apply And.intro
      any_goals (first | exact hG23 _ (by kernel_rfl) | refine hR23 _ _ _ ?_ | omega | (unfold maxLen; omega) | (simp [h2, h2_, h3, h3_]; done) | (simp [h2, h2_, h3, h3_]; omega))
      refine AW.wk [(0, AV.lst false false (List.map (AV.int .u8) v6)), (7, AV.int .i64 v5), (31, AV.bool true)] [] 1 (by simp [h2, h2_, h3, h3_]) (by simp [h2, h2_, h3, h3_]) (by simp) ?_
      refine AW.condT (by decide) (by simp [h2, h2_, h3, h3_]) ?_
      refine AW.seqR mixed [] [none, none, none] (by kernel_rfl) fun G25 R25 hG25 hR25 => ?_
      try simp [h2, h2_, h3, h3_]
      repeat' apply And.intro
      any_goals (first | exact hG25 _ (by kernel_rfl) | refine hR25 _ _ _ ?_ | omega | (unfold maxLen; omega) | (simp [h2, h2_, h3, h3_]; done) | (simp [h2, h2_, h3, h3_]; omega))
      refine AW.wk [(4, AV.str (ByteArray.mk #[])), (5, AV.lst true true (List.map (AV.int .u8) ([] : List Int))), (6, AV.bool false)] [] 1 (by simp [h2, h2_, h3, h3_]) (by simp [h2, h2_, h3, h3_]) (by simp) ?_
      refine AW.own' 5 1 true (by simp [h2, h2_, h3, h3_]) (by decide) ?_
      refine AW.rnm (m := 0) h0 [(0, 1)] [(4, AV.str (ByteArray.mk #[])), (5, AV.slc 0 0 1 (([] : List Int).length) false), (6, AV.bool false)] [(0, .grow (List.map (AV.int .u8) ([] : List Int)))] 1 (by decide) (by decide) (by decide) rfl (by simp [h2, h2_, h3, h3_]) (by simp [h2, h2_, h3, h3_]) ?_
      simp only [Option.some.injEq, Prod.mk.injEq] at hF
      obtain ⟨e0, e1, e2⟩ := hF
      subst e0 e1 e2
      refine AW.ret (hQ _ _ _ ?_ (matchO_0 ?_)).1
      · simp [Try.f81, h2, h2_, h3, h3_]
      · simp [h2, h2_, h3, h3_]
    · replace hF := ite_f h3 hF
      have h3_ := h3
      try simp at h3_
      by_cases h4 : v1 < v5
      · replace hF := ite_t h4 hF
        have h4_ := h4
        try simp at h4_
        try simp [h2, h2_, h3, h3_, h4, h4_]
        repeat' apply And.intro
        any_goals (first | exact hG23 _ (by kernel_rfl) | refine hR23 _ _ _ ?_ | omega | (unfold maxLen; omega) | (simp [h2, h2_, h3, h3_, h4, h4_]; done) | (simp [h2, h2_, h3, h3_, h4, h4_]; omega))
        refine AW.wk [(0, AV.lst false false (List.map (AV.int .u8) v6)), (7, AV.int .i64 v5), (31, AV.bool true)] [] 1 (by simp [h2, h2_, h3, h3_, h4, h4_]) (by simp [h2, h2_, h3, h3_, h4, h4_]) (by simp) ?_
        refine AW.condT (by decide) (by simp [h2, h2_, h3, h3_, h4, h4_]) ?_
        refine AW.seqR mixed [] [none, none, none] (by kernel_rfl) fun G26 R26 hG26 hR26 => ?_
        try simp [h2, h2_, h3, h3_, h4, h4_]
        repeat' apply And.intro
        any_goals (first | exact hG26 _ (by kernel_rfl) | refine hR26 _ _ _ ?_ | omega | (unfold maxLen; omega) | (simp [h2, h2_, h3, h3_, h4, h4_]; done) | (simp [h2, h2_, h3, h3_, h4, h4_]; omega))
        refine AW.wk [(4, AV.str (ByteArray.mk #[])), (5, AV.lst true true (List.map (AV.int .u8) ([] : List Int))), (6, AV.bool false)] [] 1 (by simp [h2, h2_, h3, h3_, h4, h4_]) (by simp [h2, h2_, h3, h3_, h4, h4_]) (by simp) ?_
        refine AW.own' 5 1 true (by simp [h2, h2_, h3, h3_, h4, h4_]) (by decide) ?_
        refine AW.rnm (m := 0) h0 [(0, 1)] [(4, AV.str (ByteArray.mk #[])), (5, AV.slc 0 0 1 (([] : List Int).length) false), (6, AV.bool false)] [(0, .grow (List.map (AV.int .u8) ([] : List Int)))] 1 (by decide) (by decide) (by decide) rfl (by simp [h2, h2_, h3, h3_, h4, h4_]) (by simp [h2, h2_, h3, h3_, h4, h4_]) ?_
        simp only [Option.some.injEq, Prod.mk.injEq] at hF
        obtain ⟨e0, e1, e2⟩ := hF
        subst e0 e1 e2
        refine AW.ret (hQ _ _ _ ?_ (matchO_0 ?_)).1
        · simp [Try.f81, h2, h2_, h3, h3_, h4, h4_]
        · simp [h2, h2_, h3, h3_, h4, h4_]
      · replace hF := ite_f h4 hF
        have h4_ := h4
        try simp at h4_
        try simp [h2, h2_, h3, h3_, h4, h4_]
        repeat' apply And.intro
        any_goals (first | exact hG23 _ (by kernel_rfl) | refine hR23 _ _ _ ?_ | omega | (unfold maxLen; omega) | (simp [h2, h2_, h3, h3_, h4, h4_]; done) | (simp [h2, h2_, h3, h3_, h4, h4_]; omega))
        refine AW.wk [(0, AV.lst false false (List.map (AV.int .u8) v6)), (7, AV.int .i64 v5), (31, AV.bool (decide ((v6.length : Int) < v5)))] [] 1 (by simp [h2, h2_, h3, h3_, h4, h4_]) (by simp [h2, h2_, h3, h3_, h4, h4_]) (by simp) ?_
        by_cases h5 : (v6.length : Int) < v5
        · replace hF := ite_t h5 hF
          have h5_ := h5
          try simp at h5_
          refine AW.condT (by decide) (by first | (simp [h2, h2_, h3, h3_, h4, h4_, h5, h5_]; done) | (simp [h2, h2_, h3, h3_, h4, h4_, h5, h5_]; omega)) ?_
          refine AW.seqR mixed [] [none, none, none] (by kernel_rfl) fun G27 R27 hG27 hR27 => ?_
          try simp [h2, h2_, h3, h3_, h4, h4_, h5, h5_]
          repeat' apply And.intro
          any_goals (first | exact hG27 _ (by kernel_rfl) | refine hR27 _ _ _ ?_ | omega | (unfold maxLen; omega) | (simp [h2, h2_, h3, h3_, h4, h4_, h5, h5_]; done) | (simp [h2, h2_, h3, h3_, h4, h4_, h5, h5_]; omega))
          refine AW.wk [(4, AV.str (ByteArray.mk #[])), (5, AV.lst true true (List.map (AV.int .u8) ([] : List Int))), (6, AV.bool false)] [] 1 (by simp [h2, h2_, h3, h3_, h4, h4_, h5, h5_]) (by simp [h2, h2_, h3, h3_, h4, h4_, h5, h5_]) (by simp) ?_
          refine AW.own' 5 1 true (by simp [h2, h2_, h3, h3_, h4, h4_, h5, h5_]) (by decide) ?_
          refine AW.rnm (m := 0) h0 [(0, 1)] [(4, AV.str (ByteArray.mk #[])), (5, AV.slc 0 0 1 (([] : List Int).length) false), (6, AV.bool false)] [(0, .grow (List.map (AV.int .u8) ([] : List Int)))] 1 (by decide) (by decide) (by decide) rfl (by simp [h2, h2_, h3, h3_, h4, h4_, h5, h5_]) (by simp [h2, h2_, h3, h3_, h4, h4_, h5, h5_]) ?_
          simp only [Option.some.injEq, Prod.mk.injEq] at hF
          obtain ⟨e0, e1, e2⟩ := hF
          subst e0 e1 e2
          refine AW.ret (hQ _ _ _ ?_ (matchO_0 ?_)).1
          · simp [Try.f81, h2, h2_, h3, h3_, h4, h4_, h5, h5_]
          · simp [h2, h2_, h3, h3_, h4, h4_, h5, h5_]
        · replace hF := ite_f h5 hF
          have h5_ := h5
          try simp at h5_
          refine AW.condF (by decide) (by first | (simp [h2, h2_, h3, h3_, h4, h4_, h5, h5_]; done) | (simp [h2, h2_, h3, h3_, h4, h4_, h5, h5_]; omega)) ?_
          refine AW.skip ?_
          refine hK22 _ _ _ ?_
          refine AW.seqR mixed [] [none, none, none, none, none, none, none, none, none, none, none] (by kernel_rfl) fun G28 R28 hG28 hR28 => ?_
          obtain ⟨⟨h6, h7⟩, hF⟩ := chk_elim hF
          have h6_ := h6
          try simp at h6_
          have h7_ := h7
          try simp at h7_
          obtain ⟨⟨h8, h9⟩, hF⟩ := chk_elim hF
          have h8_ := h8
          try simp at h8_
          have h9_ := h9
          try simp at h9_
          try simp [h2, h2_, h3, h3_, h4, h4_, h5, h5_, h6, h7, h6_, h7_, h8, h9, h8_, h9_]
          repeat' apply And.intro
          try any_goals (first | omega | (unfold maxLen; omega) | (simp [h2, h2_, h3, h3_, h4, h4_, h5, h5_, h6, h7, h6_, h7_, h8, h9, h8_, h9_]; done))
          obtain ⟨v8, h10, hF⟩ := bnd1_elim hF
          refine aCall_l (w_ref02_rest k _ _ h10) (by simp) [] [] [] rfl (.cons (.same (by simp [h2, h2_, h3, h3_, h4, h4_, h5, h5_, h6, h7, h6_, h7_, h8, h9, h8_, h9_])) .nil) (by simp [h2, h2_, h3, h3_, h4, h4_, h5, h5_, h6, h7, h6_, h7_, h8, h9, h8_, h9_]) (by decide) (by simp) (by simp) (.inl rfl) (by simp) (by simp) ?_
          try simp [h2, h2_, h3, h3_, h4, h4_, h5, h5_, h6, h7, h6_, h7_, h8, h9, h8_, h9_]
          repeat' apply And.intro
          any_goals (first | exact hG28 _ (by kernel_rfl) | refine hR28 _ _ _ ?_ | omega | (unfold maxLen; omega) | (simp [h2, h2_, h3, h3_, h4, h4_, h5, h5_, h6, h7, h6_, h7_, h8, h9, h8_, h9_]; done) | (simp [h2, h2_, h3, h3_, h4, h4_, h5, h5_, h6, h7, h6_, h7_, h8, h9, h8_, h9_]; omega))
          refine AW.wk [(4, AV.str (ofI (v6.take (v5).toNat))), (5, AV.slc 1 0 1 v8.length false), (6, AV.bool true)] [(1, .grow (List.map (AV.int .u8) v8))] 2 (by simp [h2, h2_, h3, h3_, h4, h4_, h5, h5_, h6, h7, h6_, h7_, h8, h9, h8_, h9_]) (by simp [h2, h2_, h3, h3_, h4, h4_, h5, h5_, h6, h7, h6_, h7_, h8, h9, h8_, h9_]) (by simp) ?_
          refine AW.rnm (m := 0) h0 [(0, 1)] [(4, AV.str (ofI (v6.take (v5).toNat))), (5, AV.slc 0 0 1 v8.length false), (6, AV.bool true)] [(0, .grow (List.map (AV.int .u8) v8))] 1 (by decide) (by decide) (by decide) rfl (by simp [h2, h2_, h3, h3_, h4, h4_, h5, h5_, h6, h7, h6_, h7_, h8, h9, h8_, h9_]) (by simp [h2, h2_, h3, h3_, h4, h4_, h5, h5_, h6, h7, h6_, h7_, h8, h9, h8_, h9_]) ?_
          simp only [Option.some.injEq, Prod.mk.injEq] at hF
          obtain ⟨e0, e1, e2⟩ := hF
          subst e0 e1 e2
          refine AW.ret (hQ _ _ _ ?_ (matchO_0 ?_)).1
          · simp [Try.f81, h2, h2_, h3, h3_, h4, h4_, h5, h5_, h6, h7, h6_, h7_, h8, h9, h8_, h9_]
          · simp [h2, h2_, h3, h3_, h4, h4_, h5, h5_, h6, h7, h6_, h7_, h8, h9, h8_, h9_]
set_option maxHeartbeats 4000000 in
theorem w_wire_TakeInts (k : Nat) (v0 : (List Int)) (v1 : Int) (v2 : (List Int)) (v3 : (List Int)) (v4 : Bool) (hF : wire_TakeInts k v0 v1 = some (v2, v3, v4)) :
    FCall Try.prog 56 [AV.lst false false (List.map (AV.int .u8) v0), AV.int .i64 v1] [] (AV.tup [AV.slc 0 0 1 v2.length false, AV.lst false false (List.map (AV.int .u8) v3), AV.bool v4]) [some (.grow (List.map (AV.int .i64) v2))] := by
  unfold wire_TakeInts at hF
  refine FCall.enter Try.func56 rfl (by simp) (by decide) (by simp) (by simp) (by simp) (by simp) (by simp) ?_
  intro c0 w0 Q h0 hQ
  refine AW.wk [(0, AV.lst false false (List.map (AV.int .u8) v0)), (1, AV.int .i64 v1)] [] 0 (by simp) (by simp) (by simp) ?_
  refine AW.seqR mixed [] [none, none, none] (by kernel_rfl) fun G81 R81 hG81 hR81 => ?_
  try simp
  repeat' apply And.intro
  any_goals (first | exact hG81 _ (by kernel_rfl) | refine hR81 _ _ _ ?_ | omega | (unfold maxLen; omega) | (simp; done) | (simp; omega))
  refine AW.wk [(0, AV.lst false false (List.map (AV.int .u8) v0)), (1, AV.int .i64 v1)] [] 0 (by simp) (by simp) (by simp) ?_
  refine AW.seqR mixed [] [none, none, none, none, none, none, none, none, none] (by kernel_rfl) fun G82 R82 hG82 hR82 => ?_
  try simp
  repeat' apply And.intro
  try any_goals (first | omega | (unfold maxLen; omega) | (simp; done))
  obtain ⟨v5, v6, v7, h1, hF⟩ := bnd3_elim hF
  refine aCall_l (w_wire_TakeInt k _ _ _ _ h1) (by simp) [] [] [] rfl (.cons (.same (by simp)) .nil) (by simp) (by decide) (by simp) (by simp) (.inl rfl) (by simp) (by simp) ?_
  try simp
  repeat' apply And.intro
  any_goals (first | exact hG82 _ (by kernel_rfl) | refine hR82 _ _ _ ?_ | omega | (unfold maxLen; omega) | (simp; done) | (simp; omega))
  refine AW.wk [(1, AV.int .i64 v1), (7, AV.int .i64 v5), (8, AV.slc 0 0 1 v6.length false), (9, AV.bool v7)] [(0, .grow (List.map (AV.int .u8) v6))] 1 (by simp) (by simp) (by simp) ?_
  refine AW.frz 0 (o := .grow (List.map (AV.int .u8) v6)) (by simp) rfl [(8, AV.lst false false (List.map (AV.int .u8) v6))] [] ⟨(.l (by simp) (by simp) (by simp) (by simp)), trivial⟩ trivial ?_
  refine AW.wk [(1, AV.int .i64 v1), (7, AV.int .i64 v5), (8, AV.lst false false (List.map (AV.int .u8) v6)), (9, AV.bool v7)] [] 1 (by simp) (by simp) (by simp) ?_
  refine AW.seq fun K88 hK88 => ?_
  refine AW.seqR mixed [] [none, none, none, some (20, false), some (20, false), none, none, some (24, false), some (24, false), some (24, false), none, none, some (29, false), some (29, false), some (29, false), some (29, false), some (29, false), none] (by kernel_rfl) fun G89 R89 hG89 hR89 => ?_
  by_cases h2 : (!v7) = true
  · replace hF := ite_t h2 hF
    have h2_ := h2
    try simp at h2_
    try simp [h2, h2_]
    repeat' apply And.intro
    any_goals (first | exact hG89 _ (by kernel_rfl) | refine hR89 _ _ _ ?_ | omega | (unfold maxLen; omega) | (simp [h2, h2_]; done) | (simp [h2, h2_]; omega))
    refine AW.wk [(7, AV.int .i64 v5), (8, AV.lst false false (List.map (AV.int .u8) v6)), (35, AV.bool true)] [] 1 (by simp [h2, h2_]) (by simp [h2, h2_]) (by simp) ?_
    refine AW.condT (by decide) (by simp [h2, h2_]) ?_
    refine AW.seqR mixed [] [none, none, none] (by kernel_rfl) fun G90 R90 hG90 hR90 => ?_
    try simp [h2, h2_]
    repeat' apply And.intro
    any_goals (first | exact hG90 _ (by kernel_rfl) | refine hR90 _ _ _ ?_ | omega | (unfold maxLen; omega) | (simp [h2, h2_]; done) | (simp [h2, h2_]; omega))
    refine AW.wk [(4, AV.lst true true (List.map (AV.int .i64) ([] : List Int))), (5, AV.lst true true (List.map (AV.int .u8) ([] : List Int))), (6, AV.bool false)] [] 1 (by simp [h2, h2_]) (by simp [h2, h2_]) (by simp) ?_
    refine AW.own' 4 1 true (by simp [h2, h2_]) (by decide) ?_
    refine AW.rnm (m := 0) h0 [(0, 1)] [(4, AV.slc 0 0 1 (([] : List Int).length) false), (5, AV.lst true true (List.map (AV.int .u8) ([] : List Int))), (6, AV.bool false)] [(0, .grow (List.map (AV.int .i64) ([] : List Int)))] 1 (by decide) (by decide) (by decide) rfl (by simp [h2, h2_]) (by simp [h2, h2_]) ?_
    refine AW.flg [(5, AV.lst false false (List.map (AV.int .u8) ([] : List Int)))] [] ⟨(.lst (by simp)), trivial⟩ trivial (by simp) ?_
    simp only [Option.some.injEq, Prod.mk.injEq] at hF
    obtain ⟨e0, e1, e2⟩ := hF
    subst e0 e1 e2
    refine AW.ret (hQ _ _ _ ?_ (matchO_0 ?_)).1
    · simp [Try.f56, h2, h2_]
    · simp [h2, h2_]
  · replace hF := ite_f h2 hF
    have h2_ := h2
    try simp at h2_
    by_cases h3 : v5 < 0
    · replace hF := ite_t h3 hF
      have h3_ := h3
      try simp at h3_
      try simp [h2, h2_, h3, h3_]
      repeat' apply And.intro
      any_goals (first | exact hG89 _ (by kernel_rfl) | refine hR89 _ _ _ ?_ | omega | (unfold maxLen; omega) | (simp [h2, h2_, h3, h3_]; done) | (simp [h2, h2_, h3, h3_]; omega))
      refine AW.wk [(7, AV.int .i64 v5), (8, AV.lst false false (List.map (AV.int .u8) v6)), (35, AV.bool true)] [] 1 (by simp [h2, h2_, h3, h3_]) (by simp [h2, h2_, h3, h3_]) (by simp) ?_
      refine AW.condT (by decide) (by simp [h2, h2_, h3, h3_]) ?_
      refine AW.seqR mixed [] [none, none, none] (by kernel_rfl) fun G91 R91 hG91 hR91 => ?_
      try simp [h2, h2_, h3, h3_]
      repeat' apply And.intro
      any_goals (first | exact hG91 _ (by kernel_rfl) | refine hR91 _ _ _ ?_ | omega | (unfold maxLen; omega) | (simp [h2, h2_, h3, h3_]; done) | (simp [h2, h2_, h3, h3_]; omega))
      refine AW.wk [(4, AV.lst true true (List.map (AV.int .i64) ([] : List Int))), (5, AV.lst true true (List.map (AV.int .u8) ([] : List Int))), (6, AV.bool false)] [] 1 (by simp [h2, h2_, h3, h3_]) (by simp [h2, h2_, h3, h3_]) (by simp) ?_
      refine AW.own' 4 1 true (by simp [h2, h2_, h3, h3_]) (by decide) ?_
      refine AW.rnm (m := 0) h0 [(0, 1)] [(4, AV.slc 0 0 1 (([] : List Int).length) false), (5, AV.lst true true (List.map (AV.int .u8) ([] : List Int))), (6, AV.bool false)] [(0, .grow (List.map (AV.int .i64) ([] : List Int)))] 1 (by decide) (by decide) (by decide) rfl (by simp [h2, h2_, h3, h3_]) (by simp [h2, h2_, h3, h3_]) ?_
      refine AW.flg [(5, AV.lst false false (List.map (AV.int .u8) ([] : List Int)))] [] ⟨(.lst (by simp)), trivial⟩ trivial (by simp) ?_
      simp only [Option.some.injEq, Prod.mk.injEq] at hF
      obtain ⟨e0, e1, e2⟩ := hF
      subst e0 e1 e2
      refine AW.ret (hQ _ _ _ ?_ (matchO_0 ?_)).1
      · simp [Try.f56, h2, h2_, h3, h3_]
      · simp [h2, h2_, h3, h3_]
    · replace hF := ite_f h3 hF
      have h3_ := h3
      try simp at h3_
      by_cases h4 : v1 < v5
      · replace hF := ite_t h4 hF
        have h4_ := h4
        try simp at h4_
        try simp [h2, h2_, h3, h3_, h4, h4_]
        repeat' apply And.intro
        any_goals (first | exact hG89 _ (by kernel_rfl) | refine hR89 _ _ _ ?_ | omega | (unfold maxLen; omega) | (simp [h2, h2_, h3, h3_, h4, h4_]; done) | (simp [h2, h2_, h3, h3_, h4, h4_]; omega))
        refine AW.wk [(7, AV.int .i64 v5), (8, AV.lst false false (List.map (AV.int .u8) v6)), (35, AV.bool true)] [] 1 (by simp [h2, h2_, h3, h3_, h4, h4_]) (by simp [h2, h2_, h3, h3_, h4, h4_]) (by simp) ?_
        refine AW.condT (by decide) (by simp [h2, h2_, h3, h3_, h4, h4_]) ?_
        refine AW.seqR mixed [] [none, none, none] (by kernel_rfl) fun G92 R92 hG92 hR92 => ?_
        try simp [h2, h2_, h3, h3_, h4, h4_]
        repeat' apply And.intro
        any_goals (first | exact hG92 _ (by kernel_rfl) | refine hR92 _ _ _ ?_ | omega | (unfold maxLen; omega) | (simp [h2, h2_, h3, h3_, h4, h4_]; done) | (simp [h2, h2_, h3, h3_, h4, h4_]; omega))
        refine AW.wk [(4, AV.lst true true (List.map (AV.int .i64) ([] : List Int))), (5, AV.lst true true (List.map (AV.int .u8) ([] : List Int))), (6, AV.bool false)] [] 1 (by simp [h2, h2_, h3, h3_, h4, h4_]) (by simp [h2, h2_, h3, h3_, h4, h4_]) (by simp) ?_
        refine AW.own' 4 1 true (by simp [h2, h2_, h3, h3_, h4, h4_]) (by decide) ?_
        refine AW.rnm (m := 0) h0 [(0, 1)] [(4, AV.slc 0 0 1 (([] : List Int).length) false), (5, AV.lst true true (List.map (AV.int .u8) ([] : List Int))), (6, AV.bool false)] [(0, .grow (List.map (AV.int .i64) ([] : List Int)))] 1 (by decide) (by decide) (by decide) rfl (by simp [h2, h2_, h3, h3_, h4, h4_]) (by simp [h2, h2_, h3, h3_, h4, h4_]) ?_
        refine AW.flg [(5, AV.lst false false (List.map (AV.int .u8) ([] : List Int)))] [] ⟨(.lst (by simp)), trivial⟩ trivial (by simp) ?_
        simp only [Option.some.injEq, Prod.mk.injEq] at hF
        obtain ⟨e0, e1, e2⟩ := hF
        subst e0 e1 e2
        refine AW.ret (hQ _ _ _ ?_ (matchO_0 ?_)).1
        · simp [Try.f56, h2, h2_, h3, h3_, h4, h4_]
        · simp [h2, h2_, h3, h3_, h4, h4_]
      · replace hF := ite_f h4 hF
        have h4_ := h4
        try simp at h4_
        try simp [h2, h2_, h3, h3_, h4, h4_]
        repeat' apply And.intro
        any_goals (first | exact hG89 _ (by kernel_rfl) | refine hR89 _ _ _ ?_ | omega | (unfold maxLen; omega) | (simp [h2, h2_, h3, h3_, h4, h4_]; done) | (simp [h2, h2_, h3, h3_, h4, h4_]; omega))
        refine AW.wk [(7, AV.int .i64 v5), (8, AV.lst false false (List.map (AV.int .u8) v6)), (35, AV.bool (decide (IntKind.wrap .i64 (Int.tdiv (v6.length : Int) 8) < v5)))] [] 1 (by simp [h2, h2_, h3, h3_, h4, h4_]) (by simp [h2, h2_, h3, h3_, h4, h4_]) (by simp) ?_
        by_cases h5 : IntKind.wrap .i64 (Int.tdiv (v6.length : Int) 8) < v5
        · replace hF := ite_t h5 hF
          have h5_ := h5
          try simp at h5_
          refine AW.condT (by decide) (by first | (simp [h2, h2_, h3, h3_, h4, h4_, h5, h5_]; done) | (simp [h2, h2_, h3, h3_, h4, h4_, h5, h5_]; omega)) ?_
          refine AW.seqR mixed [] [none, none, none] (by kernel_rfl) fun G93 R93 hG93 hR93 => ?_
          try simp [h2, h2_, h3, h3_, h4, h4_, h5, h5_]
          repeat' apply And.intro
          any_goals (first | exact hG93 _ (by kernel_rfl) | refine hR93 _ _ _ ?_ | omega | (unfold maxLen; omega) | (simp [h2, h2_, h3, h3_, h4, h4_, h5, h5_]; done) | (simp [h2, h2_, h3, h3_, h4, h4_, h5, h5_]; omega))
          refine AW.wk [(4, AV.lst true true (List.map (AV.int .i64) ([] : List Int))), (5, AV.lst true true (List.map (AV.int .u8) ([] : List Int))), (6, AV.bool false)] [] 1 (by simp [h2, h2_, h3, h3_, h4, h4_, h5, h5_]) (by simp [h2, h2_, h3, h3_, h4, h4_, h5, h5_]) (by simp) ?_
          refine AW.own' 4 1 true (by simp [h2, h2_, h3, h3_, h4, h4_, h5, h5_]) (by decide) ?_
          refine AW.rnm (m := 0) h0 [(0, 1)] [(4, AV.slc 0 0 1 (([] : List Int).length) false), (5, AV.lst true true (List.map (AV.int .u8) ([] : List Int))), (6, AV.bool false)] [(0, .grow (List.map (AV.int .i64) ([] : List Int)))] 1 (by decide) (by decide) (by decide) rfl (by simp [h2, h2_, h3, h3_, h4, h4_, h5, h5_]) (by simp [h2, h2_, h3, h3_, h4, h4_, h5, h5_]) ?_
          refine AW.flg [(5, AV.lst false false (List.map (AV.int .u8) ([] : List Int)))] [] ⟨(.lst (by simp)), trivial⟩ trivial (by simp) ?_
          simp only [Option.some.injEq, Prod.mk.injEq] at hF
          obtain ⟨e0, e1, e2⟩ := hF
          subst e0 e1 e2
          refine AW.ret (hQ _ _ _ ?_ (matchO_0 ?_)).1
          · simp [Try.f56, h2, h2_, h3, h3_, h4, h4_, h5, h5_]
          · simp [h2, h2_, h3, h3_, h4, h4_, h5, h5_]
        · replace hF := ite_f h5 hF
          have h5_ := h5
          try simp at h5_
          refine AW.condF (by decide) (by first | (simp [h2, h2_, h3, h3_, h4, h4_, h5, h5_]; done) | (simp [h2, h2_, h3, h3_, h4, h4_, h5, h5_]; omega)) ?_
          refine AW.skip ?_
          refine hK88 _ _ _ ?_
          refine AW.seqR mixed [] [none] (by kernel_rfl) fun G94 R94 hG94 hR94 => ?_
          try simp [h2, h2_, h3, h3_, h4, h4_, h5, h5_]
          repeat' apply And.intro
          any_goals (first | exact hG94 _ (by kernel_rfl) | refine hR94 _ _ _ ?_ | omega | (unfold maxLen; omega) | (simp [h2, h2_, h3, h3_, h4, h4_, h5, h5_]; done) | (simp [h2, h2_, h3, h3_, h4, h4_, h5, h5_]; omega))
          refine AW.wk [(7, AV.int .i64 v5), (8, AV.lst false false (List.map (AV.int .u8) v6)), (10, AV.lst true true (List.map (AV.int .i64) ([] : List Int)))] [] 1 (by simp [h2, h2_, h3, h3_, h4, h4_, h5, h5_]) (by simp [h2, h2_, h3, h3_, h4, h4_, h5, h5_]) (by simp) ?_
          refine AW.seq fun K127 hK127 => ?_
          refine AW.seqR mixed [] [none, none] (by kernel_rfl) fun G128 R128 hG128 hR128 => ?_
          try simp [h2, h2_, h3, h3_, h4, h4_, h5, h5_]
          repeat' apply And.intro
          any_goals (first | exact hG128 _ (by kernel_rfl) | refine hR128 _ _ _ ?_ | omega | (unfold maxLen; omega) | (simp [h2, h2_, h3, h3_, h4, h4_, h5, h5_]; done) | (simp [h2, h2_, h3, h3_, h4, h4_, h5, h5_]; omega))
          refine AW.wk [(8, AV.lst false false (List.map (AV.int .u8) v6)), (10, AV.lst true true (List.map (AV.int .i64) ([] : List Int))), (36, AV.int .i64 v5), (37, AV.int .i64 0)] [] 1 (by simp [h2, h2_, h3, h3_, h4, h4_, h5, h5_]) (by simp [h2, h2_, h3, h3_, h4, h4_, h5, h5_]) (by simp) ?_
          refine AW.block ?_
          refine AW.own' 10 1 true (by simp [h2, h2_, h3, h3_, h4, h4_, h5, h5_]) (by decide) ?_
          refine AW.rnm (m := 0) h0 [(0, 1)] [(8, AV.lst false false (List.map (AV.int .u8) v6)), (10, AV.slc 0 0 1 (([] : List Int).length) false), (36, AV.int .i64 v5), (37, AV.int .i64 0)] [(0, .grow (List.map (AV.int .i64) ([] : List Int)))] 1 (by decide) (by decide) (by decide) rfl (by simp [h2, h2_, h3, h3_, h4, h4_, h5, h5_]) (by simp [h2, h2_, h3, h3_, h4, h4_, h5, h5_]) ?_
          refine AW.loopF (α := ((List Int) × Int × (List Int))) (fun n (v8, v9, v10) => wire_TakeInts.L1 k v5 n v8 v9 v10 = some (v2, v3, v4)) (fun (v8, v9, v10) => [(8, AV.lst false false (List.map (AV.int .u8) v8)), (10, AV.slc 0 0 1 v10.length false), (36, AV.int .i64 v5), (37, AV.int .i64 v9)]) (fun (v8, v9, v10) => [(0, .grow (List.map (AV.int .i64) v10))]) 1 k ((v6, 0, ([] : List Int))) hF (by simp [h2, h2_, h3, h3_, h4, h4_, h5, h5_]) (by simp [h2, h2_, h3, h3_, h4, h4_, h5, h5_]) (by simp) ?_
          rintro (_|n1) ⟨v8, v9, v10⟩ hF K149 hK149
          · try dsimp only at hF
            rw [wire_TakeInts.L1] at hF; cases hF
          try dsimp only at hF
          rw [wire_TakeInts.L1] at hF
          refine AW.seqR mixed [] [none] (by kernel_rfl) fun G150 R150 hG150 hR150 => ?_
          try simp [h2, h2_, h3, h3_, h4, h4_, h5, h5_]
          repeat' apply And.intro
          any_goals (first | exact hG150 _ (by kernel_rfl) | refine hR150 _ _ _ ?_ | omega | (unfold maxLen; omega) | (simp [h2, h2_, h3, h3_, h4, h4_, h5, h5_]; done) | (simp [h2, h2_, h3, h3_, h4, h4_, h5, h5_]; omega))
          refine AW.wk [(8, AV.lst false false (List.map (AV.int .u8) v8)), (10, AV.slc 0 0 1 v10.length false), (36, AV.int .i64 v5), (37, AV.int .i64 v9), (38, AV.bool (decide (v9 < v5)))] [(0, .grow (List.map (AV.int .i64) v10))] 1 (by simp [h2, h2_, h3, h3_, h4, h4_, h5, h5_]) (by simp [h2, h2_, h3, h3_, h4, h4_, h5, h5_]) (by simp) ?_
          refine AW.seq fun K151 hK151 => ?_
          by_cases h6 : v9 < v5
          · replace hF := ite_t h6 hF
            have h6_ := h6
            try simp at h6_
            refine AW.condT (by decide) (by first | (simp [h2, h2_, h3, h3_, h4, h4_, h5, h5_, h6, h6_]; done) | (simp [h2, h2_, h3, h3_, h4, h4_, h5, h5_, h6, h6_]; omega)) ?_
            refine AW.skip ?_
            refine hK151 _ _ _ ?_
            refine AW.seq fun K155 hK155 => ?_
            refine AW.block ?_
            refine AW.seqR mixed [] [none] (by kernel_rfl) fun G156 R156 hG156 hR156 => ?_
            try simp [h2, h2_, h3, h3_, h4, h4_, h5, h5_, h6, h6_]
            repeat' apply And.intro
            any_goals (first | exact hG156 _ (by kernel_rfl) | refine hR156 _ _ _ ?_ | omega | (unfold maxLen; omega) | (simp [h2, h2_, h3, h3_, h4, h4_, h5, h5_, h6, h6_]; done) | (simp [h2, h2_, h3, h3_, h4, h4_, h5, h5_, h6, h6_]; omega))
            refine AW.wk [(8, AV.lst false false (List.map (AV.int .u8) v8)), (10, AV.slc 0 0 1 v10.length false), (36, AV.int .i64 v5), (37, AV.int .i64 v9)] [(0, .grow (List.map (AV.int .i64) v10))] 1 (by simp [h2, h2_, h3, h3_, h4, h4_, h5, h5_, h6, h6_]) (by simp [h2, h2_, h3, h3_, h4, h4_, h5, h5_, h6, h6_]) (by simp) ?_
            refine AW.seqR mixed [] [none, none, none, none, none, none, none, none] (by kernel_rfl) fun G157 R157 hG157 hR157 => ?_
            try simp [h2, h2_, h3, h3_, h4, h4_, h5, h5_, h6, h6_]
            repeat' apply And.intro
            try any_goals (first | omega | (unfold maxLen; omega) | (simp [h2, h2_, h3, h3_, h4, h4_, h5, h5_, h6, h6_]; done))
            obtain ⟨v11, v12, v13, h7, hF⟩ := bnd3_elim hF
            refine aCall_l (w_wire_TakeInt k _ _ _ _ h7) (by simp) [] [] [] rfl (.cons (.same (by simp [h2, h2_, h3, h3_, h4, h4_, h5, h5_, h6, h6_])) .nil) (by simp [h2, h2_, h3, h3_, h4, h4_, h5, h5_, h6, h6_]) (by decide) (by simp) (by simp) (.inl rfl) (by simp) (by simp) ?_
            try simp [h2, h2_, h3, h3_, h4, h4_, h5, h5_, h6, h6_]
            repeat' apply And.intro
            any_goals (first | exact hG157 _ (by kernel_rfl) | refine hR157 _ _ _ ?_ | omega | (unfold maxLen; omega) | (simp [h2, h2_, h3, h3_, h4, h4_, h5, h5_, h6, h6_]; done) | (simp [h2, h2_, h3, h3_, h4, h4_, h5, h5_, h6, h6_]; omega))
            refine AW.wk [(8, AV.slc 1 0 1 v12.length false), (10, AV.slc 0 0 1 v10.length false), (11, AV.int .i64 v11), (36, AV.int .i64 v5), (37, AV.int .i64 v9)] [(0, .grow (List.map (AV.int .i64) v10)), (1, .grow (List.map (AV.int .u8) v12))] 2 (by simp [h2, h2_, h3, h3_, h4, h4_, h5, h5_, h6, h6_]) (by simp [h2, h2_, h3, h3_, h4, h4_, h5, h5_, h6, h6_]) (by simp) ?_
            refine AW.frz 1 (o := .grow (List.map (AV.int .u8) v12)) (by simp [h2, h2_, h3, h3_, h4, h4_, h5, h5_, h6, h6_]) rfl [(8, AV.lst false false (List.map (AV.int .u8) v12))] [] ⟨(.l (by simp) (by simp) (by simp) (by simp)), trivial⟩ trivial ?_
            refine AW.wk [(8, AV.lst false false (List.map (AV.int .u8) v12)), (10, AV.slc 0 0 1 v10.length false), (11, AV.int .i64 v11), (36, AV.int .i64 v5), (37, AV.int .i64 v9)] [(0, .grow (List.map (AV.int .i64) v10))] 2 (by simp [h2, h2_, h3, h3_, h4, h4_, h5, h5_, h6, h6_]) (by simp [h2, h2_, h3, h3_, h4, h4_, h5, h5_, h6, h6_]) (by simp) ?_
            refine AW.region mixed [] [none, none, none, none, none] (by kernel_rfl) fun G158 R158 hG158 hR158 => ?_
            obtain ⟨h8, hF⟩ := chk_elim hF
            have h8_ := h8
            try simp at h8_
            try simp [h2, h2_, h3, h3_, h4, h4_, h5, h5_, h6, h6_, h8]
            repeat' apply And.intro
            any_goals (first | exact hG158 _ (by kernel_rfl) | refine hR158 _ _ _ ?_ | omega | (unfold maxLen; omega) | (simp [h2, h2_, h3, h3_, h4, h4_, h5, h5_, h6, h6_, h8]; done) | (simp [h2, h2_, h3, h3_, h4, h4_, h5, h5_, h6, h6_, h8]; omega))
            refine hK155 _ _ _ ?_
            refine AW.wk [(8, AV.lst false false (List.map (AV.int .u8) v12)), (10, AV.slc 2 0 1 ((v10 ++ ([v11] : List Int)).length) false), (36, AV.int .i64 v5), (37, AV.int .i64 v9)] [(2, .grow (List.map (AV.int .i64) (v10 ++ ([v11] : List Int))))] 3 (by simp [h2, h2_, h3, h3_, h4, h4_, h5, h5_, h6, h6_, h8]) (by simp [h2, h2_, h3, h3_, h4, h4_, h5, h5_, h6, h6_, h8]) (by simp) ?_
            refine AW.region mixed [] [none, none] (by kernel_rfl) fun G159 R159 hG159 hR159 => ?_
            try simp [h2, h2_, h3, h3_, h4, h4_, h5, h5_, h6, h6_, h8]
            repeat' apply And.intro
            any_goals (first | exact hG159 _ (by kernel_rfl) | refine hR159 _ _ _ ?_ | omega | (unfold maxLen; omega) | (simp [h2, h2_, h3, h3_, h4, h4_, h5, h5_, h6, h6_, h8]; done) | (simp [h2, h2_, h3, h3_, h4, h4_, h5, h5_, h6, h6_, h8]; omega))
            refine hK149 _ _ _ ?_
            refine Can.weak [(8, AV.lst false false (List.map (AV.int .u8) v12)), (10, AV.slc 2 0 1 ((v10 ++ ([v11] : List Int)).length) false), (36, AV.int .i64 v5), (37, AV.int .i64 (IntKind.wrap .i64 (v9 + 1)))] [(2, .grow (List.map (AV.int .i64) (v10 ++ ([v11] : List Int))))] 3 (by simp [h2, h2_, h3, h3_, h4, h4_, h5, h5_, h6, h6_, h8]) (by simp [h2, h2_, h3, h3_, h4, h4_, h5, h5_, h6, h6_, h8]) (by simp) ?_
            refine Can.ren (m := 0) h0 [(0, 2)] [(8, AV.lst false false (List.map (AV.int .u8) v12)), (10, AV.slc 0 0 1 ((v10 ++ ([v11] : List Int)).length) false), (36, AV.int .i64 v5), (37, AV.int .i64 (IntKind.wrap .i64 (v9 + 1)))] [(0, .grow (List.map (AV.int .i64) (v10 ++ ([v11] : List Int))))] 1 (by decide) (by decide) (by decide) rfl (by simp [h2, h2_, h3, h3_, h4, h4_, h5, h5_, h6, h6_, h8]) (by simp [h2, h2_, h3, h3_, h4, h4_, h5, h5_, h6, h6_, h8]) ?_
            exact Can.next (k' := n1) ((v12, IntKind.wrap .i64 (v9 + 1), v10 ++ ([v11] : List Int))) (by omega) hF (by simp [h2, h2_, h3, h3_, h4, h4_, h5, h5_, h6, h6_, h8]) (by simp [h2, h2_, h3, h3_, h4, h4_, h5, h5_, h6, h6_, h8]) (by simp)
          · replace hF := ite_f h6 hF
            have h6_ := h6
            try simp at h6_
            refine AW.condF (by decide) (by first | (simp [h2, h2_, h3, h3_, h4, h4_, h5, h5_, h6, h6_]; done) | (simp [h2, h2_, h3, h3_, h4, h4_, h5, h5_, h6, h6_]; omega)) ?_
            refine AW.exit ?_
            try simp
            refine hK127 _ _ _ ?_
            refine AW.seqR mixed [] [none, none, none, none, none] (by kernel_rfl) fun G160 R160 hG160 hR160 => ?_
            try simp [h2, h2_, h3, h3_, h4, h4_, h5, h5_, h6, h6_]
            repeat' apply And.intro
            any_goals (first | exact hG160 _ (by kernel_rfl) | refine hR160 _ _ _ ?_ | omega | (unfold maxLen; omega) | (simp [h2, h2_, h3, h3_, h4, h4_, h5, h5_, h6, h6_]; done) | (simp [h2, h2_, h3, h3_, h4, h4_, h5, h5_, h6, h6_]; omega))
            refine AW.wk [(4, AV.slc 0 0 1 v10.length false), (5, AV.lst false false (List.map (AV.int .u8) v8)), (6, AV.bool true)] [(0, .grow (List.map (AV.int .i64) v10))] 1 (by simp [h2, h2_, h3, h3_, h4, h4_, h5, h5_, h6, h6_]) (by simp [h2, h2_, h3, h3_, h4, h4_, h5, h5_, h6, h6_]) (by simp) ?_
            simp only [Option.some.injEq, Prod.mk.injEq] at hF
            obtain ⟨e0, e1, e2⟩ := hF
            subst e0 e1 e2
            refine AW.ret (hQ _ _ _ ?_ (matchO_0 ?_)).1
            · simp [Try.f56, h2, h2_, h3, h3_, h4, h4_, h5, h5_, h6, h6_]
            · simp [h2, h2_, h3, h3_, h4, h4_, h5, h5_, h6, h6_]
end Go.TF
