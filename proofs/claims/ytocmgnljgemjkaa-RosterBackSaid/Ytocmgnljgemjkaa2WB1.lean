/- Walks: the Go text computes the Lean functions (printed by a program of our own). -/
import Derived.Test.Ytocmgnljgemjkaa2Pu
import Derived.Test.Ytocmgnljgemjkaa2AbsT
import Derived.Test.Ytocmgnljgemjkaa2Wa0
set_option linter.unusedVariables false
set_option linter.unusedSimpArgs false
set_option maxRecDepth 100000
namespace Go.TF
open Go Go.Abs Go.Proofs Go.Proofs.Ytocmgnljgemjkaa2T
set_option maxHeartbeats 4000000 in
theorem w_roster_Decode_1 (k : Nat) (v0 : Int) (v1 : Bool) (hF : roster_Decode_1 k v0 = some v1) :
    FCall Try.prog 83 [AV.int .i64 v0] [] (AV.bool v1) [] := by
  unfold roster_Decode_1 at hF
  refine FCall.enter Try.func83 rfl (by simp) (by decide) (by simp) (by simp) (by simp) (by simp) (by simp) ?_
  intro c0 w0 Q h0 hQ
  refine AW.wk [(0, AV.int .i64 v0)] [] 0 (by simp) (by simp) (by simp) ?_
  refine AW.seqR mixed [] [none] (by kernel_rfl) fun G3 R3 hG3 hR3 => ?_
  try simp
  repeat' apply And.intro
  any_goals (first | exact hG3 _ (by kernel_rfl) | refine hR3 _ _ _ ?_ | omega | (unfold maxLen; omega) | (simp; done) | (simp; omega))
  refine AW.wk [(0, AV.int .i64 v0)] [] 0 (by simp) (by simp) (by simp) ?_
  refine AW.seqR mixed [] [none, none, none, some (5, false), some (5, false), none, none] (by kernel_rfl) fun G4 R4 hG4 hR4 => ?_
  by_cases h1 : v0 < 0
  · replace hF := ite_t h1 hF
    have h1_ := h1
    try simp at h1_
    try simp [h1, h1_]
    repeat' apply And.intro
    any_goals (first | exact hG4 _ (by kernel_rfl) | refine hR4 _ _ _ ?_ | omega | (unfold maxLen; omega) | (simp [h1, h1_]; done) | (simp [h1, h1_]; omega))
    refine AW.wk [(2, AV.bool true)] [] 0 (by simp [h1, h1_]) (by simp [h1, h1_]) (by simp) ?_
    simp only [Option.some.injEq] at hF
    subst hF
    refine AW.ret (hQ _ _ _ ?_ (matchO_0 ?_)).1
    · simp [Try.f83, h1, h1_]
    · simp [h1, h1_]
  · replace hF := ite_f h1 hF
    have h1_ := h1
    try simp at h1_
    try simp [h1, h1_]
    repeat' apply And.intro
    any_goals (first | exact hG4 _ (by kernel_rfl) | refine hR4 _ _ _ ?_ | omega | (unfold maxLen; omega) | (simp [h1, h1_]; done) | (simp [h1, h1_]; omega))
    refine AW.wk [(2, AV.bool (decide (4294967296 ≤ v0)))] [] 0 (by simp [h1, h1_]) (by simp [h1, h1_]) (by simp) ?_
    simp only [Option.some.injEq] at hF
    subst hF
    refine AW.ret (hQ _ _ _ ?_ (matchO_0 ?_)).1
    · simp [Try.f83, h1, h1_]
    · simp [h1, h1_]
set_option maxHeartbeats 4000000 in
theorem w_slices_IndexFunc_int_int_Decode_1 (k : Nat) (v0 : (List Int)) (v1 : Int) (hF : slices_IndexFunc_int_int_Decode_1 k v0 = some v1) :
    FCall Try.prog 98 [AV.lst false false (List.map (AV.int .i64) v0), AV.fn 83 []] [] (AV.int .i64 v1) [] := by
  unfold slices_IndexFunc_int_int_Decode_1 at hF
  refine FCall.enter Try.func98 rfl (by simp) (by decide) (by simp) (by simp) (by simp) (by simp) (by simp) ?_
  intro c0 w0 Q h0 hQ
  refine AW.wk [(0, AV.lst false false (List.map (AV.int .i64) v0)), (1, AV.fn 83 [])] [] 0 (by simp) (by simp) (by simp) ?_
  refine AW.seqR mixed [] [none] (by kernel_rfl) fun G68 R68 hG68 hR68 => ?_
  try simp
  repeat' apply And.intro
  any_goals (first | exact hG68 _ (by kernel_rfl) | refine hR68 _ _ _ ?_ | omega | (unfold maxLen; omega) | (simp; done) | (simp; omega))
  refine AW.wk [(0, AV.lst false false (List.map (AV.int .i64) v0)), (1, AV.fn 83 [])] [] 0 (by simp) (by simp) (by simp) ?_
  refine AW.seq fun K101 hK101 => ?_
  refine AW.seqR mixed [] [none, none, none] (by kernel_rfl) fun G102 R102 hG102 hR102 => ?_
  try simp
  repeat' apply And.intro
  any_goals (first | exact hG102 _ (by kernel_rfl) | refine hR102 _ _ _ ?_ | omega | (unfold maxLen; omega) | (simp; done) | (simp; omega))
  refine AW.wk [(0, AV.lst false false (List.map (AV.int .i64) v0)), (1, AV.fn 83 []), (7, AV.int .i64 (v0.length : Int)), (8, AV.int .i64 0)] [] 0 (by simp) (by simp) (by simp) ?_
  refine AW.block ?_
  refine AW.loopF (α := Int) (fun n v2 => slices_IndexFunc_int_int_Decode_1.L1 k v0 n v2 = some v1) (fun v2 => [(0, AV.lst false false (List.map (AV.int .i64) v0)), (1, AV.fn 83 []), (7, AV.int .i64 (v0.length : Int)), (8, AV.int .i64 v2)]) (fun v2 => []) 0 k (0) hF (by simp) (by simp) (by simp) ?_
  rintro (_|n1) v2 hF K123 hK123
  · try dsimp only at hF
    rw [slices_IndexFunc_int_int_Decode_1.L1] at hF; cases hF
  try dsimp only at hF
  rw [slices_IndexFunc_int_int_Decode_1.L1] at hF
  refine AW.seqR mixed [] [none] (by kernel_rfl) fun G124 R124 hG124 hR124 => ?_
  try simp
  repeat' apply And.intro
  any_goals (first | exact hG124 _ (by kernel_rfl) | refine hR124 _ _ _ ?_ | omega | (unfold maxLen; omega) | (simp; done) | (simp; omega))
  refine AW.wk [(0, AV.lst false false (List.map (AV.int .i64) v0)), (1, AV.fn 83 []), (7, AV.int .i64 (v0.length : Int)), (8, AV.int .i64 v2), (9, AV.bool (decide (v2 < (v0.length : Int))))] [] 0 (by simp) (by simp) (by simp) ?_
  refine AW.seq fun K125 hK125 => ?_
  by_cases h1 : v2 < (v0.length : Int)
  · replace hF := ite_t h1 hF
    have h1_ := h1
    try simp at h1_
    refine AW.condT (by decide) (by first | (simp [h1, h1_]; done) | (simp [h1, h1_]; omega)) ?_
    refine AW.skip ?_
    refine hK125 _ _ _ ?_
    refine AW.seq fun K129 hK129 => ?_
    refine AW.block ?_
    refine AW.seqR mixed [] [none, none] (by kernel_rfl) fun G130 R130 hG130 hR130 => ?_
    try simp [h1, h1_]
    repeat' apply And.intro
    any_goals (first | exact hG130 _ (by kernel_rfl) | refine hR130 _ _ _ ?_ | omega | (unfold maxLen; omega) | (simp [h1, h1_]; done) | (simp [h1, h1_]; omega))
    refine AW.wk [(0, AV.lst false false (List.map (AV.int .i64) v0)), (1, AV.fn 83 []), (5, AV.int .i64 v2), (7, AV.int .i64 (v0.length : Int)), (8, AV.int .i64 v2)] [] 0 (by simp [h1, h1_]) (by simp [h1, h1_]) (by simp) ?_
    refine AW.seqR mixed [] [none, none, none, none, none, none] (by kernel_rfl) fun G131 R131 hG131 hR131 => ?_
    obtain ⟨v3, h2, h3, h4, hF⟩ := idx_elim hF
    have h4_ := get_of h4
    try simp at h4_
    have h3_ := h3
    try simp at h3_
    try simp [h1, h1_, h2, h3, h4, h4_, h3_]
    repeat' apply And.intro
    try any_goals (first | omega | (unfold maxLen; omega) | (simp [h1, h1_, h2, h3, h4, h4_, h3_]; done))
    obtain ⟨v4, h5, hF⟩ := bnd1_elim hF
    refine aCall_l (w_roster_Decode_1 k _ _ h5) (by simp) [] [] [] rfl (.cons (.same (by simp [h1, h1_, h2, h3, h4, h4_, h3_])) .nil) (by simp [h1, h1_, h2, h3, h4, h4_, h3_]) (by decide) (by simp) (by simp) (.inl rfl) (by simp) (by simp) ?_
    try simp [h1, h1_, h2, h3, h4, h4_, h3_]
    repeat' apply And.intro
    any_goals (first | exact hG131 _ (by kernel_rfl) | refine hR131 _ _ _ ?_ | omega | (unfold maxLen; omega) | (simp [h1, h1_, h2, h3, h4, h4_, h3_]; done) | (simp [h1, h1_, h2, h3, h4, h4_, h3_]; omega))
    refine AW.wk [(0, AV.lst false false (List.map (AV.int .i64) v0)), (1, AV.fn 83 []), (5, AV.int .i64 v2), (7, AV.int .i64 (v0.length : Int)), (8, AV.int .i64 v2), (16, AV.bool v4)] [] 0 (by simp [h1, h1_, h2, h3, h4, h4_, h3_]) (by simp [h1, h1_, h2, h3, h4, h4_, h3_]) (by simp) ?_
    by_cases h6 : v4 = true
    · replace hF := ite_t h6 hF
      have h6_ := h6
      try simp at h6_
      refine AW.condT (by decide) (by first | (simp [h1, h1_, h2, h3, h4, h4_, h3_, h6, h6_]; done) | (simp [h1, h1_, h2, h3, h4, h4_, h3_, h6, h6_]; omega)) ?_
      refine AW.seqR mixed [] [none, none] (by kernel_rfl) fun G132 R132 hG132 hR132 => ?_
      try simp [h1, h1_, h2, h3, h4, h4_, h3_, h6, h6_]
      repeat' apply And.intro
      any_goals (first | exact hG132 _ (by kernel_rfl) | refine hR132 _ _ _ ?_ | omega | (unfold maxLen; omega) | (simp [h1, h1_, h2, h3, h4, h4_, h3_, h6, h6_]; done) | (simp [h1, h1_, h2, h3, h4, h4_, h3_, h6, h6_]; omega))
      refine AW.wk [(4, AV.int .i64 v2)] [] 0 (by simp [h1, h1_, h2, h3, h4, h4_, h3_, h6, h6_]) (by simp [h1, h1_, h2, h3, h4, h4_, h3_, h6, h6_]) (by simp) ?_
      simp only [Option.some.injEq] at hF
      subst hF
      refine AW.ret (hQ _ _ _ ?_ (matchO_0 ?_)).1
      · simp [Try.f98, h1, h1_, h2, h3, h4, h4_, h3_, h6, h6_]
      · simp [h1, h1_, h2, h3, h4, h4_, h3_, h6, h6_]
    · replace hF := ite_f h6 hF
      have h6_ := h6
      try simp at h6_
      refine AW.condF (by decide) (by first | (simp [h1, h1_, h2, h3, h4, h4_, h3_, h6, h6_]; done) | (simp [h1, h1_, h2, h3, h4, h4_, h3_, h6, h6_]; omega)) ?_
      refine AW.skip ?_
      refine hK129 _ _ _ ?_
      refine AW.region mixed [] [none, none] (by kernel_rfl) fun G133 R133 hG133 hR133 => ?_
      try simp [h1, h1_, h2, h3, h4, h4_, h3_, h6, h6_]
      repeat' apply And.intro
      any_goals (first | exact hG133 _ (by kernel_rfl) | refine hR133 _ _ _ ?_ | omega | (unfold maxLen; omega) | (simp [h1, h1_, h2, h3, h4, h4_, h3_, h6, h6_]; done) | (simp [h1, h1_, h2, h3, h4, h4_, h3_, h6, h6_]; omega))
      refine hK123 _ _ _ ?_
      refine Can.weak [(0, AV.lst false false (List.map (AV.int .i64) v0)), (1, AV.fn 83 []), (7, AV.int .i64 (v0.length : Int)), (8, AV.int .i64 (IntKind.wrap .i64 (v2 + 1)))] [] 0 (by simp [h1, h1_, h2, h3, h4, h4_, h3_, h6, h6_]) (by simp [h1, h1_, h2, h3, h4, h4_, h3_, h6, h6_]) (by simp) ?_
      exact Can.next (k' := n1) (IntKind.wrap .i64 (v2 + 1)) (by omega) hF (by simp [h1, h1_, h2, h3, h4, h4_, h3_, h6, h6_]) (by simp [h1, h1_, h2, h3, h4, h4_, h3_, h6, h6_]) (by simp)
  · replace hF := ite_f h1 hF
    have h1_ := h1
    try simp at h1_
    refine AW.condF (by decide) (by first | (simp [h1, h1_]; done) | (simp [h1, h1_]; omega)) ?_
    refine AW.exit ?_
    try simp
    refine hK101 _ _ _ ?_
    refine AW.seqR mixed [] [none] (by kernel_rfl) fun G134 R134 hG134 hR134 => ?_
    try simp [h1, h1_]
    repeat' apply And.intro
    any_goals (first | exact hG134 _ (by kernel_rfl) | refine hR134 _ _ _ ?_ | omega | (unfold maxLen; omega) | (simp [h1, h1_]; done) | (simp [h1, h1_]; omega))
    refine AW.wk [(4, AV.int .i64 (-1))] [] 0 (by simp [h1, h1_]) (by simp [h1, h1_]) (by simp) ?_
    simp only [Option.some.injEq] at hF
    subst hF
    refine AW.ret (hQ _ _ _ ?_ (matchO_0 ?_)).1
    · simp [Try.f98, h1, h1_]
    · simp [h1, h1_]
set_option maxHeartbeats 4000000 in
theorem w_slices_ContainsFunc_int_int_Decode_1 (k : Nat) (v0 : (List Int)) (v1 : Bool) (hF : slices_ContainsFunc_int_int_Decode_1 k v0 = some v1) :
    FCall Try.prog 84 [AV.lst false false (List.map (AV.int .i64) v0), AV.fn 83 []] [] (AV.bool v1) [] := by
  unfold slices_ContainsFunc_int_int_Decode_1 at hF
  refine FCall.enter Try.func84 rfl (by simp) (by decide) (by simp) (by simp) (by simp) (by simp) (by simp) ?_
  intro c0 w0 Q h0 hQ
  refine AW.wk [(0, AV.lst false false (List.map (AV.int .i64) v0)), (1, AV.fn 83 [])] [] 0 (by simp) (by simp) (by simp) ?_
  refine AW.seqR mixed [] [none] (by kernel_rfl) fun G3 R3 hG3 hR3 => ?_
  try simp
  repeat' apply And.intro
  any_goals (first | exact hG3 _ (by kernel_rfl) | refine hR3 _ _ _ ?_ | omega | (unfold maxLen; omega) | (simp; done) | (simp; omega))
  refine AW.wk [(0, AV.lst false false (List.map (AV.int .i64) v0)), (1, AV.fn 83 [])] [] 0 (by simp) (by simp) (by simp) ?_
  refine AW.seqR mixed [] [none, none, none, none, none] (by kernel_rfl) fun G4 R4 hG4 hR4 => ?_
  try simp
  repeat' apply And.intro
  try any_goals (first | omega | (unfold maxLen; omega) | (simp; done))
  obtain ⟨v2, h1, hF⟩ := bnd1_elim hF
  refine aCall_l (w_slices_IndexFunc_int_int_Decode_1 k _ _ h1) (by simp) [] [] [] rfl (.cons (.same (by simp)) (.cons (.same (by simp)) .nil)) (by simp) (by decide) (by simp) (by simp) (.inl rfl) (by simp) (by simp) ?_
  try simp
  repeat' apply And.intro
  any_goals (first | exact hG4 _ (by kernel_rfl) | refine hR4 _ _ _ ?_ | omega | (unfold maxLen; omega) | (simp; done) | (simp; omega))
  refine AW.wk [(4, AV.bool (decide (0 ≤ v2)))] [] 0 (by simp) (by simp) (by simp) ?_
  simp only [Option.some.injEq] at hF
  subst hF
  refine AW.ret (hQ _ _ _ ?_ (matchO_0 ?_)).1
  · simp [Try.f84]
  · simp
set_option maxHeartbeats 4000000 in
theorem w_roster_Decode (k : Nat) (v0 : (List Int)) (v1 : (List Int)) (v2 : Int) (hF : roster_Decode k v0 = some (v1, v2)) :
    FCall Try.prog 46 [AV.lst false false (List.map (AV.int .i64) v0)] [] (AV.tup [AV.slc 0 0 1 v1.length false, AV.int .i64 v2]) [some (.grow (List.map (AV.int .i64) v1))] := by
  unfold roster_Decode at hF
  refine FCall.enter Try.func46 rfl (by simp) (by decide) (by simp) (by simp) (by simp) (by simp) (by simp) ?_
  intro c0 w0 Q h0 hQ
  refine AW.wk [(0, AV.lst false false (List.map (AV.int .i64) v0))] [] 0 (by simp) (by simp) (by simp) ?_
  refine AW.seqR mixed [] [none, none] (by kernel_rfl) fun G79 R79 hG79 hR79 => ?_
  try simp
  repeat' apply And.intro
  any_goals (first | exact hG79 _ (by kernel_rfl) | refine hR79 _ _ _ ?_ | omega | (unfold maxLen; omega) | (simp; done) | (simp; omega))
  refine AW.wk [(0, AV.lst false false (List.map (AV.int .i64) v0))] [] 0 (by simp) (by simp) (by simp) ?_
  refine AW.seqR mixed [] [none] (by kernel_rfl) fun G80 R80 hG80 hR80 => ?_
  try simp
  repeat' apply And.intro
  any_goals (first | exact hG80 _ (by kernel_rfl) | refine hR80 _ _ _ ?_ | omega | (unfold maxLen; omega) | (simp; done) | (simp; omega))
  refine AW.wk [(0, AV.lst false false (List.map (AV.int .i64) v0)), (4, AV.fn 83 [])] [] 0 (by simp) (by simp) (by simp) ?_
  refine AW.midF (α := Unit) (fun _ => roster_Decode.J1 k v0 = some (v1, v2)) (fun _ => [(0, AV.lst false false (List.map (AV.int .i64) v0))]) (fun _ => []) 0 (fun K152 hK152 => ?_) ?_
  · refine AW.seqR mixed [] [none, none, none, none, some (10, false), some (10, false), some (10, false), none, none, some (15, false), some (15, false), some (15, false), some (15, false), some (15, false), some (20, true), some (20, true), some (20, true), some (20, true), some (15, false), none] (by kernel_rfl) fun G153 R153 hG153 hR153 => ?_
    by_cases h8 : (v0.length : Int) ≠ 2
    · replace hF := ite_t h8 hF
      have h8_ := eqb_f h8
      have h8__ := neb_t h8
      try simp [h8, h8_, h8__]
      repeat' apply And.intro
      any_goals (first | exact hG153 _ (by kernel_rfl) | refine hR153 _ _ _ ?_ | omega | (unfold maxLen; omega) | (simp [h8, h8_, h8__]; done) | (simp [h8, h8_, h8__]; omega))
      refine AW.wk [(0, AV.lst false false (List.map (AV.int .i64) v0)), (26, AV.bool true)] [] 0 (by simp [h8, h8_, h8__]) (by simp [h8, h8_, h8__]) (by simp) ?_
      refine AW.condT (by decide) (by simp [h8, h8_, h8__]) ?_
      refine AW.seqR mixed [] [none, none] (by kernel_rfl) fun G154 R154 hG154 hR154 => ?_
      try simp [h8, h8_, h8__]
      repeat' apply And.intro
      any_goals (first | exact hG154 _ (by kernel_rfl) | refine hR154 _ _ _ ?_ | omega | (unfold maxLen; omega) | (simp [h8, h8_, h8__]; done) | (simp [h8, h8_, h8__]; omega))
      refine AW.wk [(2, AV.lst true true (List.map (AV.int .i64) ([] : List Int))), (3, AV.int .i64 43)] [] 0 (by simp [h8, h8_, h8__]) (by simp [h8, h8_, h8__]) (by simp) ?_
      refine AW.own' 2 1 true (by simp [h8, h8_, h8__]) (by decide) ?_
      simp only [Option.some.injEq, Prod.mk.injEq] at hF
      obtain ⟨e0, e1⟩ := hF
      subst e0 e1
      refine AW.ret (hQ _ _ _ ?_ (matchO_0 ?_)).1
      · simp [Try.f46, h8, h8_, h8__]
      · simp [h8, h8_, h8__]
    · replace hF := ite_f h8 hF
      have h8q : (v0.length : Int) = 2 := Classical.not_not.1 h8
      have h8_ := eqb_t h8q
      have h8__ := neb_f h8q
      try simp [h8_, h8__, h8q]
      repeat' apply And.intro
      try any_goals (first | omega | (unfold maxLen; omega) | (simp [h8_, h8__, h8q]; done))
      obtain ⟨v7, h9, hF⟩ := bnd1_elim hF
      refine aCall_l (w_slices_ContainsFunc_int_int_Decode_1 k _ _ h9) (by simp) [] [] [] rfl (.cons (.same (by simp [h8_, h8__, h8q])) (.cons (.same (by simp [h8_, h8__, h8q])) .nil)) (by simp [h8_, h8__, h8q]) (by decide) (by simp) (by simp) (.inl rfl) (by simp) (by simp) ?_
      by_cases h10 : v7 = true
      · replace hF := ite_t h10 hF
        have h10_ := h10
        try simp at h10_
        try simp [h8_, h8__, h8q, h10, h10_]
        repeat' apply And.intro
        any_goals (first | exact hG153 _ (by kernel_rfl) | refine hR153 _ _ _ ?_ | omega | (unfold maxLen; omega) | (simp [h8_, h8__, h8q, h10, h10_]; done) | (simp [h8_, h8__, h8q, h10, h10_]; omega))
        refine AW.wk [(0, AV.lst false false (List.map (AV.int .i64) v0)), (26, AV.bool true)] [] 0 (by simp [h8_, h8__, h8q, h10, h10_]) (by simp [h8_, h8__, h8q, h10, h10_]) (by simp) ?_
        refine AW.condT (by decide) (by simp [h8_, h8__, h8q, h10, h10_]) ?_
        refine AW.seqR mixed [] [none, none] (by kernel_rfl) fun G155 R155 hG155 hR155 => ?_
        try simp [h8_, h8__, h8q, h10, h10_]
        repeat' apply And.intro
        any_goals (first | exact hG155 _ (by kernel_rfl) | refine hR155 _ _ _ ?_ | omega | (unfold maxLen; omega) | (simp [h8_, h8__, h8q, h10, h10_]; done) | (simp [h8_, h8__, h8q, h10, h10_]; omega))
        refine AW.wk [(2, AV.lst true true (List.map (AV.int .i64) ([] : List Int))), (3, AV.int .i64 43)] [] 0 (by simp [h8_, h8__, h8q, h10, h10_]) (by simp [h8_, h8__, h8q, h10, h10_]) (by simp) ?_
        refine AW.own' 2 1 true (by simp [h8_, h8__, h8q, h10, h10_]) (by decide) ?_
        simp only [Option.some.injEq, Prod.mk.injEq] at hF
        obtain ⟨e0, e1⟩ := hF
        subst e0 e1
        refine AW.ret (hQ _ _ _ ?_ (matchO_0 ?_)).1
        · simp [Try.f46, h8_, h8__, h8q, h10, h10_]
        · simp [h8_, h8__, h8q, h10, h10_]
      · replace hF := ite_f h10 hF
        have h10_ := h10
        try simp at h10_
        obtain ⟨v8, h11, h12, h13, hF⟩ := idx_elim hF
        have h13_ := get_of h13
        try simp at h13_
        have h12_ := h12
        try simp at h12_
        by_cases h14 : v8 = 0
        · replace hF := ite_t h14 hF
          have h14q : v8 = 0 := h14
          have h14_ := eqb_t h14q
          have h14__ := neb_f h14q
          obtain ⟨v9, h15, h16, h17, hF⟩ := idx_elim hF
          have h17_ := get_of h17
          try simp at h17_
          have h16_ := h16
          try simp at h16_
          try simp [h8_, h8__, h8q, h10, h10_, h11, h12, h13, h13_, h12_, h14_, h14__, h14q, h15, h16, h17, h17_, h16_]
          repeat' apply And.intro
          any_goals (first | exact hG153 _ (by kernel_rfl) | refine hR153 _ _ _ ?_ | omega | (unfold maxLen; omega) | (simp [h8_, h8__, h8q, h10, h10_, h11, h12, h13, h13_, h12_, h14_, h14__, h14q, h15, h16, h17, h17_, h16_]; done) | (simp [h8_, h8__, h8q, h10, h10_, h11, h12, h13, h13_, h12_, h14_, h14__, h14q, h15, h16, h17, h17_, h16_]; omega))
          refine AW.wk [(0, AV.lst false false (List.map (AV.int .i64) v0)), (26, AV.bool (v9 == 0))] [] 0 (by simp [h8_, h8__, h8q, h10, h10_, h11, h12, h13, h13_, h12_, h14_, h14__, h14q, h15, h16, h17, h17_, h16_]) (by simp [h8_, h8__, h8q, h10, h10_, h11, h12, h13, h13_, h12_, h14_, h14__, h14q, h15, h16, h17, h17_, h16_]) (by simp) ?_
          by_cases h18 : v9 = 0
          · replace hF := ite_t h18 hF
            have h18q : v9 = 0 := h18
            have h18_ := eqb_t h18q
            have h18__ := neb_f h18q
            refine AW.condT (by decide) (by first | (simp [h8_, h8__, h8q, h10, h10_, h11, h12, h13, h13_, h12_, h14_, h14__, h14q, h15, h16, h17, h17_, h16_, h18_, h18__, h18q]; done) | (simp [h8_, h8__, h8q, h10, h10_, h11, h12, h13, h13_, h12_, h14_, h14__, h14q, h15, h16, h17, h17_, h16_, h18_, h18__, h18q]; omega)) ?_
            refine AW.seqR mixed [] [none, none] (by kernel_rfl) fun G156 R156 hG156 hR156 => ?_
            try simp [h8_, h8__, h8q, h10, h10_, h11, h12, h13, h13_, h12_, h14_, h14__, h14q, h15, h16, h17, h17_, h16_, h18_, h18__, h18q]
            repeat' apply And.intro
            any_goals (first | exact hG156 _ (by kernel_rfl) | refine hR156 _ _ _ ?_ | omega | (unfold maxLen; omega) | (simp [h8_, h8__, h8q, h10, h10_, h11, h12, h13, h13_, h12_, h14_, h14__, h14q, h15, h16, h17, h17_, h16_, h18_, h18__, h18q]; done) | (simp [h8_, h8__, h8q, h10, h10_, h11, h12, h13, h13_, h12_, h14_, h14__, h14q, h15, h16, h17, h17_, h16_, h18_, h18__, h18q]; omega))
            refine AW.wk [(2, AV.lst true true (List.map (AV.int .i64) ([] : List Int))), (3, AV.int .i64 43)] [] 0 (by simp [h8_, h8__, h8q, h10, h10_, h11, h12, h13, h13_, h12_, h14_, h14__, h14q, h15, h16, h17, h17_, h16_, h18_, h18__, h18q]) (by simp [h8_, h8__, h8q, h10, h10_, h11, h12, h13, h13_, h12_, h14_, h14__, h14q, h15, h16, h17, h17_, h16_, h18_, h18__, h18q]) (by simp) ?_
            refine AW.own' 2 1 true (by simp [h8_, h8__, h8q, h10, h10_, h11, h12, h13, h13_, h12_, h14_, h14__, h14q, h15, h16, h17, h17_, h16_, h18_, h18__, h18q]) (by decide) ?_
            simp only [Option.some.injEq, Prod.mk.injEq] at hF
            obtain ⟨e0, e1⟩ := hF
            subst e0 e1
            refine AW.ret (hQ _ _ _ ?_ (matchO_0 ?_)).1
            · simp [Try.f46, h8_, h8__, h8q, h10, h10_, h11, h12, h13, h13_, h12_, h14_, h14__, h14q, h15, h16, h17, h17_, h16_, h18_, h18__, h18q]
            · simp [h8_, h8__, h8q, h10, h10_, h11, h12, h13, h13_, h12_, h14_, h14__, h14q, h15, h16, h17, h17_, h16_, h18_, h18__, h18q]
          · replace hF := ite_f h18 hF
            have h18_ := eqb_f h18
            have h18__ := neb_t h18
            refine AW.condF (by decide) (by first | (simp [h8_, h8__, h8q, h10, h10_, h11, h12, h13, h13_, h12_, h14_, h14__, h14q, h15, h16, h17, h17_, h16_, h18, h18_, h18__]; done) | (simp [h8_, h8__, h8q, h10, h10_, h11, h12, h13, h13_, h12_, h14_, h14__, h14q, h15, h16, h17, h17_, h16_, h18, h18_, h18__]; omega)) ?_
            refine AW.skip ?_
            refine hK152 _ _ _ ?_
            exact Can.join (()) hF (by simp [h8_, h8__, h8q, h10, h10_, h11, h12, h13, h13_, h12_, h14_, h14__, h14q, h15, h16, h17, h17_, h16_, h18, h18_, h18__]) (by simp [h8_, h8__, h8q, h10, h10_, h11, h12, h13, h13_, h12_, h14_, h14__, h14q, h15, h16, h17, h17_, h16_, h18, h18_, h18__]) (by simp)
        · replace hF := ite_f h14 hF
          have h14_ := eqb_f h14
          have h14__ := neb_t h14
          try simp [h8_, h8__, h8q, h10, h10_, h11, h12, h13, h13_, h12_, h14, h14_, h14__]
          repeat' apply And.intro
          any_goals (first | exact hG153 _ (by kernel_rfl) | refine hR153 _ _ _ ?_ | omega | (unfold maxLen; omega) | (simp [h8_, h8__, h8q, h10, h10_, h11, h12, h13, h13_, h12_, h14, h14_, h14__]; done) | (simp [h8_, h8__, h8q, h10, h10_, h11, h12, h13, h13_, h12_, h14, h14_, h14__]; omega))
          refine AW.wk [(0, AV.lst false false (List.map (AV.int .i64) v0)), (26, AV.bool false)] [] 0 (by simp [h8_, h8__, h8q, h10, h10_, h11, h12, h13, h13_, h12_, h14, h14_, h14__]) (by simp [h8_, h8__, h8q, h10, h10_, h11, h12, h13, h13_, h12_, h14, h14_, h14__]) (by simp) ?_
          refine AW.condF (by decide) (by simp [h8_, h8__, h8q, h10, h10_, h11, h12, h13, h13_, h12_, h14, h14_, h14__]) ?_
          refine AW.skip ?_
          refine hK152 _ _ _ ?_
          exact Can.join (()) hF (by simp [h8_, h8__, h8q, h10, h10_, h11, h12, h13, h13_, h12_, h14, h14_, h14__]) (by simp [h8_, h8__, h8q, h10, h10_, h11, h12, h13, h13_, h12_, h14, h14_, h14__]) (by simp)
  · rintro ⟨⟩ hF
    try dsimp only at hF
    unfold roster_Decode.J1 at hF
    refine AW.seqR mixed [] [none] (by kernel_rfl) fun G85 R85 hG85 hR85 => ?_
    try simp
    repeat' apply And.intro
    any_goals (first | exact hG85 _ (by kernel_rfl) | refine hR85 _ _ _ ?_ | omega | (unfold maxLen; omega) | (simp; done) | (simp; omega))
    refine AW.wk [(0, AV.lst false false (List.map (AV.int .i64) v0)), (5, AV.lst true true (List.map (AV.int .i64) ([] : List Int)))] [] 0 (by simp) (by simp) (by simp) ?_
    refine AW.seq fun K118 hK118 => ?_
    refine AW.seqR mixed [] [none] (by kernel_rfl) fun G119 R119 hG119 hR119 => ?_
    try simp
    repeat' apply And.intro
    any_goals (first | exact hG119 _ (by kernel_rfl) | refine hR119 _ _ _ ?_ | omega | (unfold maxLen; omega) | (simp; done) | (simp; omega))
    refine AW.wk [(0, AV.lst false false (List.map (AV.int .i64) v0)), (5, AV.lst true true (List.map (AV.int .i64) ([] : List Int))), (27, AV.int .i64 0)] [] 0 (by simp) (by simp) (by simp) ?_
    refine AW.block ?_
    refine AW.own' 5 1 true (by simp) (by decide) ?_
    refine AW.loopF (α := (Int × (List Int))) (fun n (v3, v4) => roster_Decode.L2 k v0 n v3 v4 = some (v1, v2)) (fun (v3, v4) => [(0, AV.lst false false (List.map (AV.int .i64) v0)), (5, AV.slc 0 0 1 v4.length false), (27, AV.int .i64 v3)]) (fun (v3, v4) => [(0, .grow (List.map (AV.int .i64) v4))]) 1 k ((0, ([] : List Int))) hF (by simp) (by simp) (by simp) ?_
    rintro (_|n2) ⟨v3, v4⟩ hF K140 hK140
    · try dsimp only at hF
      rw [roster_Decode.L2] at hF; cases hF
    try dsimp only at hF
    rw [roster_Decode.L2] at hF
    refine AW.seqR mixed [] [none] (by kernel_rfl) fun G141 R141 hG141 hR141 => ?_
    try simp
    repeat' apply And.intro
    any_goals (first | exact hG141 _ (by kernel_rfl) | refine hR141 _ _ _ ?_ | omega | (unfold maxLen; omega) | (simp; done) | (simp; omega))
    refine AW.wk [(0, AV.lst false false (List.map (AV.int .i64) v0)), (5, AV.slc 0 0 1 v4.length false), (27, AV.int .i64 v3), (28, AV.bool (decide (v3 < 64)))] [(0, .grow (List.map (AV.int .i64) v4))] 1 (by simp) (by simp) (by simp) ?_
    refine AW.seq fun K142 hK142 => ?_
    by_cases h1 : v3 < 64
    · replace hF := ite_t h1 hF
      have h1_ := h1
      try simp at h1_
      refine AW.condT (by decide) (by first | (simp [h1, h1_]; done) | (simp [h1, h1_]; omega)) ?_
      refine AW.skip ?_
      refine hK142 _ _ _ ?_
      refine AW.midF (α := (List Int)) (fun v5 => roster_Decode.J3 k v3 (fun v3_ v4_ => roster_Decode.L2 k v0 n2 v3_ v4_) v5 = some (v1, v2)) (fun v5 => [(0, AV.lst false false (List.map (AV.int .i64) v0)), (5, AV.slc 0 0 1 v5.length false), (27, AV.int .i64 v3)]) (fun v5 => [(0, .grow (List.map (AV.int .i64) v5))]) 1 (fun K147 hK147 => ?_) ?_
      · refine AW.block ?_
        refine AW.seqR mixed [] [none, none] (by kernel_rfl) fun G148 R148 hG148 hR148 => ?_
        try simp [h1, h1_]
        repeat' apply And.intro
        any_goals (first | exact hG148 _ (by kernel_rfl) | refine hR148 _ _ _ ?_ | omega | (unfold maxLen; omega) | (simp [h1, h1_]; done) | (simp [h1, h1_]; omega))
        refine AW.wk [(0, AV.lst false false (List.map (AV.int .i64) v0)), (5, AV.slc 0 0 1 v4.length false), (6, AV.int .i64 v3), (27, AV.int .i64 v3)] [(0, .grow (List.map (AV.int .i64) v4))] 1 (by simp [h1, h1_]) (by simp [h1, h1_]) (by simp) ?_
        refine AW.seqR mixed [] [none, none, none, none, none, none, none, none, none, none] (by kernel_rfl) fun G149 R149 hG149 hR149 => ?_
        obtain ⟨v6, h2, h3, h4, hF⟩ := idx_elim hF
        have h4_ := get_of h4
        try simp at h4_
        have h3_ := h3
        try simp at h3_
        obtain ⟨h5, hF⟩ := chk_elim hF
        try simp [h1, h1_, h2, h3, h4, h4_, h3_, h5]
        repeat' apply And.intro
        any_goals (first | exact hG149 _ (by kernel_rfl) | refine hR149 _ _ _ ?_ | omega | (unfold maxLen; omega) | (simp [h1, h1_, h2, h3, h4, h4_, h3_, h5]; done) | (simp [h1, h1_, h2, h3, h4, h4_, h3_, h5]; omega))
        refine AW.wk [(0, AV.lst false false (List.map (AV.int .i64) v0)), (5, AV.slc 0 0 1 v4.length false), (6, AV.int .i64 v3), (27, AV.int .i64 v3), (39, AV.bool ((bitsV .and .i64 (Int.fdiv v6 (2 ^ (min ((Int.tmod v3 32).toNat) 64))) 1) == 1))] [(0, .grow (List.map (AV.int .i64) v4))] 1 (by simp [h1, h1_, h2, h3, h4, h4_, h3_, h5]) (by simp [h1, h1_, h2, h3, h4, h4_, h3_, h5]) (by simp) ?_
        by_cases h6 : (bitsV .and .i64 (Int.fdiv v6 (2 ^ (min ((Int.tmod v3 32).toNat) 64))) 1) = 1
        · replace hF := ite_t h6 hF
          have h6q : (bitsV .and .i64 (Int.fdiv v6 (2 ^ (min ((Int.tmod v3 32).toNat) 64))) 1) = 1 := h6
          have h6_ := eqb_t h6q
          have h6__ := neb_f h6q
          refine AW.condT (by decide) (by first | (simp [h1, h1_, h2, h3, h4, h4_, h3_, h5, h6_, h6__, h6q]; done) | (simp [h1, h1_, h2, h3, h4, h4_, h3_, h5, h6_, h6__, h6q]; omega)) ?_
          refine AW.region mixed [] [none, none, none, none, none] (by kernel_rfl) fun G150 R150 hG150 hR150 => ?_
          obtain ⟨h7, hF⟩ := chk_elim hF
          have h7_ := h7
          try simp at h7_
          try simp [h1, h1_, h2, h3, h4, h4_, h3_, h5, h6_, h6__, h6q, h7]
          repeat' apply And.intro
          any_goals (first | exact hG150 _ (by kernel_rfl) | refine hR150 _ _ _ ?_ | omega | (unfold maxLen; omega) | (simp [h1, h1_, h2, h3, h4, h4_, h3_, h5, h6_, h6__, h6q, h7]; done) | (simp [h1, h1_, h2, h3, h4, h4_, h3_, h5, h6_, h6__, h6q, h7]; omega))
          refine hK147 _ _ _ ?_
          refine Can.weak [(0, AV.lst false false (List.map (AV.int .i64) v0)), (5, AV.slc 1 0 1 ((v4 ++ ([v3] : List Int)).length) false), (27, AV.int .i64 v3)] [(1, .grow (List.map (AV.int .i64) (v4 ++ ([v3] : List Int))))] 2 (by simp [h1, h1_, h2, h3, h4, h4_, h3_, h5, h6_, h6__, h6q, h7]) (by simp [h1, h1_, h2, h3, h4, h4_, h3_, h5, h6_, h6__, h6q, h7]) (by simp) ?_
          refine Can.ren (m := 0) h0 [(0, 1)] [(0, AV.lst false false (List.map (AV.int .i64) v0)), (5, AV.slc 0 0 1 ((v4 ++ ([v3] : List Int)).length) false), (27, AV.int .i64 v3)] [(0, .grow (List.map (AV.int .i64) (v4 ++ ([v3] : List Int))))] 1 (by decide) (by decide) (by decide) rfl (by simp [h1, h1_, h2, h3, h4, h4_, h3_, h5, h6_, h6__, h6q, h7]) (by simp [h1, h1_, h2, h3, h4, h4_, h3_, h5, h6_, h6__, h6q, h7]) ?_
          exact Can.join (v4 ++ ([v3] : List Int)) hF (by simp [h1, h1_, h2, h3, h4, h4_, h3_, h5, h6_, h6__, h6q, h7]) (by simp [h1, h1_, h2, h3, h4, h4_, h3_, h5, h6_, h6__, h6q, h7]) (by simp)
        · replace hF := ite_f h6 hF
          have h6_ := eqb_f h6
          have h6__ := neb_t h6
          refine AW.condF (by decide) (by first | (simp [h1, h1_, h2, h3, h4, h4_, h3_, h5, h6, h6_, h6__]; done) | (simp [h1, h1_, h2, h3, h4, h4_, h3_, h5, h6, h6_, h6__]; omega)) ?_
          refine AW.skip ?_
          refine hK147 _ _ _ ?_
          exact Can.join (v4) hF (by simp [h1, h1_, h2, h3, h4, h4_, h3_, h5, h6, h6_, h6__]) (by simp [h1, h1_, h2, h3, h4, h4_, h3_, h5, h6, h6_, h6__]) (by simp)
      · rintro v5 hF
        try dsimp only at hF
        unfold roster_Decode.J3 at hF
        refine AW.region mixed [] [none, none] (by kernel_rfl) fun G146 R146 hG146 hR146 => ?_
        try simp [h1, h1_]
        repeat' apply And.intro
        any_goals (first | exact hG146 _ (by kernel_rfl) | refine hR146 _ _ _ ?_ | omega | (unfold maxLen; omega) | (simp [h1, h1_]; done) | (simp [h1, h1_]; omega))
        refine hK140 _ _ _ ?_
        refine Can.weak [(0, AV.lst false false (List.map (AV.int .i64) v0)), (5, AV.slc 0 0 1 v5.length false), (27, AV.int .i64 (IntKind.wrap .i64 (v3 + 1)))] [(0, .grow (List.map (AV.int .i64) v5))] 1 (by simp [h1, h1_]) (by simp [h1, h1_]) (by simp) ?_
        exact Can.next (k' := n2) ((IntKind.wrap .i64 (v3 + 1), v5)) (by omega) hF (by simp [h1, h1_]) (by simp [h1, h1_]) (by simp)
    · replace hF := ite_f h1 hF
      have h1_ := h1
      try simp at h1_
      refine AW.condF (by decide) (by first | (simp [h1, h1_]; done) | (simp [h1, h1_]; omega)) ?_
      refine AW.exit ?_
      try simp
      refine hK118 _ _ _ ?_
      refine AW.seqR mixed [] [none, none, none] (by kernel_rfl) fun G151 R151 hG151 hR151 => ?_
      try simp [h1, h1_]
      repeat' apply And.intro
      any_goals (first | exact hG151 _ (by kernel_rfl) | refine hR151 _ _ _ ?_ | omega | (unfold maxLen; omega) | (simp [h1, h1_]; done) | (simp [h1, h1_]; omega))
      refine AW.wk [(2, AV.slc 0 0 1 v4.length false), (3, AV.int .i64 0)] [(0, .grow (List.map (AV.int .i64) v4))] 1 (by simp [h1, h1_]) (by simp [h1, h1_]) (by simp) ?_
      simp only [Option.some.injEq, Prod.mk.injEq] at hF
      obtain ⟨e0, e1⟩ := hF
      subst e0 e1
      refine AW.ret (hQ _ _ _ ?_ (matchO_0 ?_)).1
      · simp [Try.f46, h1, h1_]
      · simp [h1, h1_]
set_option maxHeartbeats 4000000 in
theorem w_roster_key (k : Nat) (v0 : Int) (v1 : Bool) (hF : roster_key k v0 = some v1) :
    FCall Try.prog 85 [AV.int .i64 v0] [] (AV.bool v1) [] := by
  unfold roster_key at hF
  refine FCall.enter Try.func85 rfl (by simp) (by decide) (by simp) (by simp) (by simp) (by simp) (by simp) ?_
  intro c0 w0 Q h0 hQ
  refine AW.wk [(0, AV.int .i64 v0)] [] 0 (by simp) (by simp) (by simp) ?_
  refine AW.seqR mixed [] [none] (by kernel_rfl) fun G3 R3 hG3 hR3 => ?_
  try simp
  repeat' apply And.intro
  any_goals (first | exact hG3 _ (by kernel_rfl) | refine hR3 _ _ _ ?_ | omega | (unfold maxLen; omega) | (simp; done) | (simp; omega))
  refine AW.wk [(0, AV.int .i64 v0)] [] 0 (by simp) (by simp) (by simp) ?_
  refine AW.seqR mixed [] [none, none, none, some (5, true), some (5, true), none, none] (by kernel_rfl) fun G4 R4 hG4 hR4 => ?_
  by_cases h1 : 0 ≤ v0
  · replace hF := ite_t h1 hF
    have h1_ := h1
    try simp at h1_
    try simp [h1, h1_]
    repeat' apply And.intro
    any_goals (first | exact hG4 _ (by kernel_rfl) | refine hR4 _ _ _ ?_ | omega | (unfold maxLen; omega) | (simp [h1, h1_]; done) | (simp [h1, h1_]; omega))
    refine AW.wk [(2, AV.bool (decide (v0 < 64)))] [] 0 (by simp [h1, h1_]) (by simp [h1, h1_]) (by simp) ?_
    simp only [Option.some.injEq] at hF
    subst hF
    refine AW.ret (hQ _ _ _ ?_ (matchO_0 ?_)).1
    · simp [Try.f85, h1, h1_]
    · simp [h1, h1_]
  · replace hF := ite_f h1 hF
    have h1_ := h1
    try simp at h1_
    try simp [h1, h1_]
    repeat' apply And.intro
    any_goals (first | exact hG4 _ (by kernel_rfl) | refine hR4 _ _ _ ?_ | omega | (unfold maxLen; omega) | (simp [h1, h1_]; done) | (simp [h1, h1_]; omega))
    refine AW.wk [(2, AV.bool false)] [] 0 (by simp [h1, h1_]) (by simp [h1, h1_]) (by simp) ?_
    simp only [Option.some.injEq] at hF
    subst hF
    refine AW.ret (hQ _ _ _ ?_ (matchO_0 ?_)).1
    · simp [Try.f85, h1, h1_]
    · simp [h1, h1_]
set_option maxHeartbeats 4000000 in
theorem w_roster_of (k : Nat) (v0 : (List Int)) (v1 : (List Bool)) (hF : roster_of k v0 = some v1) :
    FCall Try.prog 86 [AV.lst false false (List.map (AV.int .i64) v0)] [] (AV.agg (List.map AV.bool v1)) [] := by
  unfold roster_of at hF
  refine FCall.enter Try.func86 rfl (by simp) (by decide) (by simp) (by simp) (by simp) (by simp) (by simp) ?_
  intro c0 w0 Q h0 hQ
  refine AW.wk [(0, AV.lst false false (List.map (AV.int .i64) v0))] [] 0 (by simp) (by simp) (by simp) ?_
  refine AW.seqR mixed [] [none] (by kernel_rfl) fun G69 R69 hG69 hR69 => ?_
  try simp
  repeat' apply And.intro
  any_goals (first | exact hG69 _ (by kernel_rfl) | refine hR69 _ _ _ ?_ | omega | (unfold maxLen; omega) | (simp; done) | (simp; omega))
  refine AW.wk [(0, AV.lst false false (List.map (AV.int .i64) v0)), (2, AV.ptr 0 0)] [(0, .cells (List.map AV.bool (List.replicate 64 false)))] 1 (by simp) (by simp) (by simp) ?_
  refine AW.seqR mixed [] [none] (by kernel_rfl) fun G70 R70 hG70 hR70 => ?_
  try simp
  repeat' apply And.intro
  any_goals (first | exact hG70 _ (by kernel_rfl) | refine hR70 _ _ _ ?_ | omega | (unfold maxLen; omega) | (simp; done) | (simp; omega))
  refine AW.wk [(0, AV.lst false false (List.map (AV.int .i64) v0)), (2, AV.ptr 0 0), (3, AV.ptr 1 0)] [(0, .cells (List.map AV.bool (List.replicate 64 false))), (1, .cells (List.map AV.bool (List.replicate 64 false)))] 2 (by simp) (by simp) (by simp) ?_
  refine AW.seq fun K103 hK103 => ?_
  refine AW.seqR mixed [] [none, none, none] (by kernel_rfl) fun G104 R104 hG104 hR104 => ?_
  try simp
  repeat' apply And.intro
  any_goals (first | exact hG104 _ (by kernel_rfl) | refine hR104 _ _ _ ?_ | omega | (unfold maxLen; omega) | (simp; done) | (simp; omega))
  refine AW.wk [(2, AV.ptr 0 0), (3, AV.ptr 1 0), (6, AV.lst false false (List.map (AV.int .i64) v0)), (7, AV.int .i64 (v0.length : Int)), (8, AV.int .i64 0)] [(0, .cells (List.map AV.bool (List.replicate 64 false))), (1, .cells (List.map AV.bool (List.replicate 64 false)))] 2 (by simp) (by simp) (by simp) ?_
  refine AW.block ?_
  refine AW.loopF (α := (Int × (List Bool))) (fun n (v2, v3) => roster_of.L1 k v0 n v2 v3 = some v1) (fun (v2, v3) => [(2, AV.ptr 0 0), (3, AV.ptr 1 0), (6, AV.lst false false (List.map (AV.int .i64) v0)), (7, AV.int .i64 (v0.length : Int)), (8, AV.int .i64 v2)]) (fun (v2, v3) => [(0, .cells (List.map AV.bool (List.replicate 64 false))), (1, .cells (List.map AV.bool v3))]) 2 k ((0, (List.replicate 64 false))) hF (by simp) (by simp) (by simp) ?_
  rintro (_|n1) ⟨v2, v3⟩ hF K125 hK125
  · try dsimp only at hF
    rw [roster_of.L1] at hF; cases hF
  try dsimp only at hF
  rw [roster_of.L1] at hF
  refine AW.seqR mixed [] [none] (by kernel_rfl) fun G126 R126 hG126 hR126 => ?_
  try simp
  repeat' apply And.intro
  any_goals (first | exact hG126 _ (by kernel_rfl) | refine hR126 _ _ _ ?_ | omega | (unfold maxLen; omega) | (simp; done) | (simp; omega))
  refine AW.wk [(2, AV.ptr 0 0), (3, AV.ptr 1 0), (6, AV.lst false false (List.map (AV.int .i64) v0)), (7, AV.int .i64 (v0.length : Int)), (8, AV.int .i64 v2), (9, AV.bool (decide (v2 < (v0.length : Int))))] [(0, .cells (List.map AV.bool (List.replicate 64 false))), (1, .cells (List.map AV.bool v3))] 2 (by simp) (by simp) (by simp) ?_
  refine AW.seq fun K127 hK127 => ?_
  by_cases h1 : v2 < (v0.length : Int)
  · replace hF := ite_t h1 hF
    have h1_ := h1
    try simp at h1_
    refine AW.condT (by decide) (by first | (simp [h1, h1_]; done) | (simp [h1, h1_]; omega)) ?_
    refine AW.skip ?_
    refine hK127 _ _ _ ?_
    refine AW.midF (α := (List Bool)) (fun v4 => roster_of.J2 k v2 (fun v2_ v3_ => roster_of.L1 k v0 n1 v2_ v3_) v4 = some v1) (fun v4 => [(2, AV.ptr 0 0), (3, AV.ptr 1 0), (6, AV.lst false false (List.map (AV.int .i64) v0)), (7, AV.int .i64 (v0.length : Int)), (8, AV.int .i64 v2)]) (fun v4 => [(0, .cells (List.map AV.bool (List.replicate 64 false))), (1, .cells (List.map AV.bool v4))]) 2 (fun K132 hK132 => ?_) ?_
    · refine AW.block ?_
      refine AW.seqR mixed [] [none, none, none] (by kernel_rfl) fun G133 R133 hG133 hR133 => ?_
      obtain ⟨v5, h2, h3, h4, hF⟩ := idx_elim hF
      have h4_ := get_of h4
      try simp at h4_
      have h3_ := h3
      try simp at h3_
      try simp [h1, h1_, h2, h3, h4, h4_, h3_]
      repeat' apply And.intro
      any_goals (first | exact hG133 _ (by kernel_rfl) | refine hR133 _ _ _ ?_ | omega | (unfold maxLen; omega) | (simp [h1, h1_, h2, h3, h4, h4_, h3_]; done) | (simp [h1, h1_, h2, h3, h4, h4_, h3_]; omega))
      refine AW.wk [(2, AV.ptr 0 0), (3, AV.ptr 1 0), (5, AV.int .i64 v5), (6, AV.lst false false (List.map (AV.int .i64) v0)), (7, AV.int .i64 (v0.length : Int)), (8, AV.int .i64 v2)] [(0, .cells (List.map AV.bool (List.replicate 64 false))), (1, .cells (List.map AV.bool v3))] 2 (by simp [h1, h1_, h2, h3, h4, h4_, h3_]) (by simp [h1, h1_, h2, h3, h4, h4_, h3_]) (by simp) ?_
      refine AW.seqR mixed [] [none, none] (by kernel_rfl) fun G134 R134 hG134 hR134 => ?_
      try simp [h1, h1_, h2, h3, h4, h4_, h3_]
      repeat' apply And.intro
      try any_goals (first | omega | (unfold maxLen; omega) | (simp [h1, h1_, h2, h3, h4, h4_, h3_]; done))
      obtain ⟨v6, h5, hF⟩ := bnd1_elim hF
      refine aCall_l (w_roster_key k _ _ h5) (by simp) [] [] [] rfl (.cons (.same (by simp [h1, h1_, h2, h3, h4, h4_, h3_])) .nil) (by simp [h1, h1_, h2, h3, h4, h4_, h3_]) (by decide) (by simp) (by simp) (.inl rfl) (by simp) (by simp) ?_
      try simp [h1, h1_, h2, h3, h4, h4_, h3_]
      repeat' apply And.intro
      any_goals (first | exact hG134 _ (by kernel_rfl) | refine hR134 _ _ _ ?_ | omega | (unfold maxLen; omega) | (simp [h1, h1_, h2, h3, h4, h4_, h3_]; done) | (simp [h1, h1_, h2, h3, h4, h4_, h3_]; omega))
      refine AW.wk [(2, AV.ptr 0 0), (3, AV.ptr 1 0), (5, AV.int .i64 v5), (6, AV.lst false false (List.map (AV.int .i64) v0)), (7, AV.int .i64 (v0.length : Int)), (8, AV.int .i64 v2), (13, AV.bool v6)] [(0, .cells (List.map AV.bool (List.replicate 64 false))), (1, .cells (List.map AV.bool v3))] 2 (by simp [h1, h1_, h2, h3, h4, h4_, h3_]) (by simp [h1, h1_, h2, h3, h4, h4_, h3_]) (by simp) ?_
      by_cases h6 : v6 = true
      · replace hF := ite_t h6 hF
        have h6_ := h6
        try simp at h6_
        refine AW.condT (by decide) (by first | (simp [h1, h1_, h2, h3, h4, h4_, h3_, h6, h6_]; done) | (simp [h1, h1_, h2, h3, h4, h4_, h3_, h6, h6_]; omega)) ?_
        refine AW.region mixed [] [none, none, none] (by kernel_rfl) fun G135 R135 hG135 hR135 => ?_
        obtain ⟨⟨h7, h9, h8⟩, hF⟩ := chk_elim hF
        have h8_ := ne_of_lt h8
        try simp [h1, h1_, h2, h3, h4, h4_, h3_, h6, h6_, h7, h8, h9, h8_]
        repeat' apply And.intro
        any_goals (first | exact hG135 _ (by kernel_rfl) | refine hR135 _ _ _ ?_ | omega | (unfold maxLen; omega) | (simp [h1, h1_, h2, h3, h4, h4_, h3_, h6, h6_, h7, h8, h9, h8_]; done) | (simp [h1, h1_, h2, h3, h4, h4_, h3_, h6, h6_, h7, h8, h9, h8_]; omega))
        refine hK132 _ _ _ ?_
        refine Can.weak [(2, AV.ptr 0 0), (3, AV.ptr 1 0), (6, AV.lst false false (List.map (AV.int .i64) v0)), (7, AV.int .i64 (v0.length : Int)), (8, AV.int .i64 v2)] [(0, .cells (List.map AV.bool (List.replicate 64 false))), (1, .cells (List.map AV.bool (v3.set (v5).toNat true)))] 2 (by simp [h1, h1_, h2, h3, h4, h4_, h3_, h6, h6_, h7, h8, h9, h8_]) (by simp [h1, h1_, h2, h3, h4, h4_, h3_, h6, h6_, h7, h8, h9, h8_]) (by simp) ?_
        exact Can.join (v3.set (v5).toNat true) hF (by simp [h1, h1_, h2, h3, h4, h4_, h3_, h6, h6_, h7, h8, h9, h8_]) (by simp [h1, h1_, h2, h3, h4, h4_, h3_, h6, h6_, h7, h8, h9, h8_]) (by simp)
      · replace hF := ite_f h6 hF
        have h6_ := h6
        try simp at h6_
        refine AW.condF (by decide) (by first | (simp [h1, h1_, h2, h3, h4, h4_, h3_, h6, h6_]; done) | (simp [h1, h1_, h2, h3, h4, h4_, h3_, h6, h6_]; omega)) ?_
        refine AW.skip ?_
        refine hK132 _ _ _ ?_
        exact Can.join (v3) hF (by simp [h1, h1_, h2, h3, h4, h4_, h3_, h6, h6_]) (by simp [h1, h1_, h2, h3, h4, h4_, h3_, h6, h6_]) (by simp)
    · rintro v4 hF
      try dsimp only at hF
      unfold roster_of.J2 at hF
      refine AW.region mixed [] [none, none] (by kernel_rfl) fun G131 R131 hG131 hR131 => ?_
      try simp [h1, h1_]
      repeat' apply And.intro
      any_goals (first | exact hG131 _ (by kernel_rfl) | refine hR131 _ _ _ ?_ | omega | (unfold maxLen; omega) | (simp [h1, h1_]; done) | (simp [h1, h1_]; omega))
      refine hK125 _ _ _ ?_
      refine Can.weak [(2, AV.ptr 0 0), (3, AV.ptr 1 0), (6, AV.lst false false (List.map (AV.int .i64) v0)), (7, AV.int .i64 (v0.length : Int)), (8, AV.int .i64 (IntKind.wrap .i64 (v2 + 1)))] [(0, .cells (List.map AV.bool (List.replicate 64 false))), (1, .cells (List.map AV.bool v4))] 2 (by simp [h1, h1_]) (by simp [h1, h1_]) (by simp) ?_
      exact Can.next (k' := n1) ((IntKind.wrap .i64 (v2 + 1), v4)) (by omega) hF (by simp [h1, h1_]) (by simp [h1, h1_]) (by simp)
  · replace hF := ite_f h1 hF
    have h1_ := h1
    try simp at h1_
    refine AW.condF (by decide) (by first | (simp [h1, h1_]; done) | (simp [h1, h1_]; omega)) ?_
    refine AW.exit ?_
    try simp
    refine hK103 _ _ _ ?_
    refine AW.seqR mixed [] [none, none] (by kernel_rfl) fun G136 R136 hG136 hR136 => ?_
    -- array load
    obtain ⟨h10, hF⟩ := chk_elim hF
    obtain ⟨h11, hF⟩ := chk_elim hF
    try simp [h1, h1_, h10, h11]
    repeat' apply And.intro
    any_goals (first | exact hG136 _ (by kernel_rfl) | refine hR136 _ _ _ ?_ | omega | (unfold maxLen; omega) | (simp [h1, h1_, h10, h11]; done) | (simp [h1, h1_, h10, h11]; omega))
    refine AW.wk [(2, AV.ptr 0 0)] [(0, .cells (List.map AV.bool v3))] 2 (by simp [h1, h1_, h10, h11]) (by simp [h1, h1_, h10, h11]) (by simp) ?_
    obtain ⟨h12, hF⟩ := chk_elim hF
    have h12_ := ne_of_len h12 (by decide)
    simp only [Option.some.injEq] at hF
    subst hF
    refine AW.ret (hQ _ _ _ ?_ (matchO_0 ?_)).1
    · simp [Try.f86, h1, h1_, h10, h11, h12, h12_]
    · simp [h1, h1_, h10, h11, h12, h12_]
set_option maxHeartbeats 4000000 in
theorem w_roster_Valid (k : Nat) (v0 : (List Int)) (v1 : Bool) (hF : roster_Valid k v0 = some v1) :
    FCall Try.prog 50 [AV.lst false false (List.map (AV.int .i64) v0)] [] (AV.bool v1) [] := by
  unfold roster_Valid at hF
  refine FCall.enter Try.func50 rfl (by simp) (by decide) (by simp) (by simp) (by simp) (by simp) (by simp) ?_
  intro c0 w0 Q h0 hQ
  refine AW.wk [(0, AV.lst false false (List.map (AV.int .i64) v0))] [] 0 (by simp) (by simp) (by simp) ?_
  refine AW.seqR mixed [] [none] (by kernel_rfl) fun G76 R76 hG76 hR76 => ?_
  try simp
  repeat' apply And.intro
  any_goals (first | exact hG76 _ (by kernel_rfl) | refine hR76 _ _ _ ?_ | omega | (unfold maxLen; omega) | (simp; done) | (simp; omega))
  refine AW.wk [(0, AV.lst false false (List.map (AV.int .i64) v0))] [] 0 (by simp) (by simp) (by simp) ?_
  refine AW.seq fun K113 hK113 => ?_
  refine AW.seqR mixed [] [none, none, none] (by kernel_rfl) fun G114 R114 hG114 hR114 => ?_
  try simp
  repeat' apply And.intro
  any_goals (first | exact hG114 _ (by kernel_rfl) | refine hR114 _ _ _ ?_ | omega | (unfold maxLen; omega) | (simp; done) | (simp; omega))
  refine AW.wk [(0, AV.lst false false (List.map (AV.int .i64) v0)), (5, AV.lst false false (List.map (AV.int .i64) v0)), (6, AV.int .i64 (v0.length : Int)), (7, AV.int .i64 0)] [] 0 (by simp) (by simp) (by simp) ?_
  refine AW.block ?_
  refine AW.loopF (α := Int) (fun n v2 => roster_Valid.L1 k v0 n v2 = some v1) (fun v2 => [(0, AV.lst false false (List.map (AV.int .i64) v0)), (5, AV.lst false false (List.map (AV.int .i64) v0)), (6, AV.int .i64 (v0.length : Int)), (7, AV.int .i64 v2)]) (fun v2 => []) 0 k (0) hF (by simp) (by simp) (by simp) ?_
  rintro (_|n1) v2 hF K137 hK137
  · try dsimp only at hF
    rw [roster_Valid.L1] at hF; cases hF
  try dsimp only at hF
  rw [roster_Valid.L1] at hF
  refine AW.seqR mixed [] [none] (by kernel_rfl) fun G138 R138 hG138 hR138 => ?_
  try simp
  repeat' apply And.intro
  any_goals (first | exact hG138 _ (by kernel_rfl) | refine hR138 _ _ _ ?_ | omega | (unfold maxLen; omega) | (simp; done) | (simp; omega))
  refine AW.wk [(0, AV.lst false false (List.map (AV.int .i64) v0)), (5, AV.lst false false (List.map (AV.int .i64) v0)), (6, AV.int .i64 (v0.length : Int)), (7, AV.int .i64 v2), (8, AV.bool (decide (v2 < (v0.length : Int))))] [] 0 (by simp) (by simp) (by simp) ?_
  refine AW.seq fun K139 hK139 => ?_
  by_cases h1 : v2 < (v0.length : Int)
  · replace hF := ite_t h1 hF
    have h1_ := h1
    try simp at h1_
    refine AW.condT (by decide) (by first | (simp [h1, h1_]; done) | (simp [h1, h1_]; omega)) ?_
    refine AW.skip ?_
    refine hK139 _ _ _ ?_
    refine AW.midF (α := Unit) (fun _ => roster_Valid.J2 k v2 (fun v2_ => roster_Valid.L1 k v0 n1 v2_) = some v1) (fun _ => [(0, AV.lst false false (List.map (AV.int .i64) v0)), (5, AV.lst false false (List.map (AV.int .i64) v0)), (6, AV.int .i64 (v0.length : Int)), (7, AV.int .i64 v2)]) (fun _ => []) 0 (fun K145 hK145 => ?_) ?_
    · refine AW.block ?_
      refine AW.seqR mixed [] [none, none, none, none, none] (by kernel_rfl) fun G146 R146 hG146 hR146 => ?_
      obtain ⟨v3, h2, h3, h4, hF⟩ := idx_elim hF
      have h4_ := get_of h4
      try simp at h4_
      have h3_ := h3
      try simp at h3_
      try simp [h1, h1_, h2, h3, h4, h4_, h3_]
      repeat' apply And.intro
      any_goals (first | exact hG146 _ (by kernel_rfl) | refine hR146 _ _ _ ?_ | omega | (unfold maxLen; omega) | (simp [h1, h1_, h2, h3, h4, h4_, h3_]; done) | (simp [h1, h1_, h2, h3, h4, h4_, h3_]; omega))
      refine AW.wk [(0, AV.lst false false (List.map (AV.int .i64) v0)), (3, AV.int .i64 v2), (4, AV.int .i64 v3), (5, AV.lst false false (List.map (AV.int .i64) v0)), (6, AV.int .i64 (v0.length : Int)), (7, AV.int .i64 v2)] [] 0 (by simp [h1, h1_, h2, h3, h4, h4_, h3_]) (by simp [h1, h1_, h2, h3, h4, h4_, h3_]) (by simp) ?_
      refine AW.seqR mixed [] [none, none, none, none, some (15, false), some (15, false), some (15, false), some (18, true), some (18, true), some (18, true), some (18, true), some (18, true), some (18, true), some (18, true), some (15, false), none] (by kernel_rfl) fun G147 R147 hG147 hR147 => ?_
      try simp [h1, h1_, h2, h3, h4, h4_, h3_]
      repeat' apply And.intro
      try any_goals (first | omega | (unfold maxLen; omega) | (simp [h1, h1_, h2, h3, h4, h4_, h3_]; done))
      obtain ⟨v4, h5, hF⟩ := bnd1_elim hF
      refine aCall_l (w_roster_key k _ _ h5) (by simp) [] [] [] rfl (.cons (.same (by simp [h1, h1_, h2, h3, h4, h4_, h3_])) .nil) (by simp [h1, h1_, h2, h3, h4, h4_, h3_]) (by decide) (by simp) (by simp) (.inl rfl) (by simp) (by simp) ?_
      by_cases h6 : (!v4) = true
      · replace hF := ite_t h6 hF
        have h6_ := h6
        try simp at h6_
        try simp [h1, h1_, h2, h3, h4, h4_, h3_, h6, h6_]
        repeat' apply And.intro
        any_goals (first | exact hG147 _ (by kernel_rfl) | refine hR147 _ _ _ ?_ | omega | (unfold maxLen; omega) | (simp [h1, h1_, h2, h3, h4, h4_, h3_, h6, h6_]; done) | (simp [h1, h1_, h2, h3, h4, h4_, h3_, h6, h6_]; omega))
        refine AW.wk [(0, AV.lst false false (List.map (AV.int .i64) v0)), (5, AV.lst false false (List.map (AV.int .i64) v0)), (6, AV.int .i64 (v0.length : Int)), (7, AV.int .i64 v2), (27, AV.bool true)] [] 0 (by simp [h1, h1_, h2, h3, h4, h4_, h3_, h6, h6_]) (by simp [h1, h1_, h2, h3, h4, h4_, h3_, h6, h6_]) (by simp) ?_
        refine AW.condT (by decide) (by simp [h1, h1_, h2, h3, h4, h4_, h3_, h6, h6_]) ?_
        refine AW.seqR mixed [] [none] (by kernel_rfl) fun G148 R148 hG148 hR148 => ?_
        try simp [h1, h1_, h2, h3, h4, h4_, h3_, h6, h6_]
        repeat' apply And.intro
        any_goals (first | exact hG148 _ (by kernel_rfl) | refine hR148 _ _ _ ?_ | omega | (unfold maxLen; omega) | (simp [h1, h1_, h2, h3, h4, h4_, h3_, h6, h6_]; done) | (simp [h1, h1_, h2, h3, h4, h4_, h3_, h6, h6_]; omega))
        refine AW.wk [(2, AV.bool false)] [] 0 (by simp [h1, h1_, h2, h3, h4, h4_, h3_, h6, h6_]) (by simp [h1, h1_, h2, h3, h4, h4_, h3_, h6, h6_]) (by simp) ?_
        simp only [Option.some.injEq] at hF
        subst hF
        refine AW.ret (hQ _ _ _ ?_ (matchO_0 ?_)).1
        · simp [Try.f50, h1, h1_, h2, h3, h4, h4_, h3_, h6, h6_]
        · simp [h1, h1_, h2, h3, h4, h4_, h3_, h6, h6_]
      · replace hF := ite_f h6 hF
        have h6_ := h6
        try simp at h6_
        by_cases h7 : 0 < v2
        · replace hF := ite_t h7 hF
          have h7_ := h7
          try simp at h7_
          obtain ⟨v5, h8, h9, h10, hF⟩ := idx_elim hF
          have h10_ := get_of h10
          try simp at h10_
          have h9_ := h9
          try simp at h9_
          try simp [h1, h1_, h2, h3, h4, h4_, h3_, h6, h6_, h7, h7_, h8, h9, h10, h10_, h9_]
          repeat' apply And.intro
          any_goals (first | exact hG147 _ (by kernel_rfl) | refine hR147 _ _ _ ?_ | omega | (unfold maxLen; omega) | (simp [h1, h1_, h2, h3, h4, h4_, h3_, h6, h6_, h7, h7_, h8, h9, h10, h10_, h9_]; done) | (simp [h1, h1_, h2, h3, h4, h4_, h3_, h6, h6_, h7, h7_, h8, h9, h10, h10_, h9_]; omega))
          refine AW.wk [(0, AV.lst false false (List.map (AV.int .i64) v0)), (5, AV.lst false false (List.map (AV.int .i64) v0)), (6, AV.int .i64 (v0.length : Int)), (7, AV.int .i64 v2), (27, AV.bool (decide (v3 ≤ v5)))] [] 0 (by simp [h1, h1_, h2, h3, h4, h4_, h3_, h6, h6_, h7, h7_, h8, h9, h10, h10_, h9_]) (by simp [h1, h1_, h2, h3, h4, h4_, h3_, h6, h6_, h7, h7_, h8, h9, h10, h10_, h9_]) (by simp) ?_
          by_cases h11 : v3 ≤ v5
          · replace hF := ite_t h11 hF
            have h11_ := h11
            try simp at h11_
            refine AW.condT (by decide) (by first | (simp [h1, h1_, h2, h3, h4, h4_, h3_, h6, h6_, h7, h7_, h8, h9, h10, h10_, h9_, h11, h11_]; done) | (simp [h1, h1_, h2, h3, h4, h4_, h3_, h6, h6_, h7, h7_, h8, h9, h10, h10_, h9_, h11, h11_]; omega)) ?_
            refine AW.seqR mixed [] [none] (by kernel_rfl) fun G149 R149 hG149 hR149 => ?_
            try simp [h1, h1_, h2, h3, h4, h4_, h3_, h6, h6_, h7, h7_, h8, h9, h10, h10_, h9_, h11, h11_]
            repeat' apply And.intro
            any_goals (first | exact hG149 _ (by kernel_rfl) | refine hR149 _ _ _ ?_ | omega | (unfold maxLen; omega) | (simp [h1, h1_, h2, h3, h4, h4_, h3_, h6, h6_, h7, h7_, h8, h9, h10, h10_, h9_, h11, h11_]; done) | (simp [h1, h1_, h2, h3, h4, h4_, h3_, h6, h6_, h7, h7_, h8, h9, h10, h10_, h9_, h11, h11_]; omega))
            refine AW.wk [(2, AV.bool false)] [] 0 (by simp [h1, h1_, h2, h3, h4, h4_, h3_, h6, h6_, h7, h7_, h8, h9, h10, h10_, h9_, h11, h11_]) (by simp [h1, h1_, h2, h3, h4, h4_, h3_, h6, h6_, h7, h7_, h8, h9, h10, h10_, h9_, h11, h11_]) (by simp) ?_
            simp only [Option.some.injEq] at hF
            subst hF
            refine AW.ret (hQ _ _ _ ?_ (matchO_0 ?_)).1
            · simp [Try.f50, h1, h1_, h2, h3, h4, h4_, h3_, h6, h6_, h7, h7_, h8, h9, h10, h10_, h9_, h11, h11_]
            · simp [h1, h1_, h2, h3, h4, h4_, h3_, h6, h6_, h7, h7_, h8, h9, h10, h10_, h9_, h11, h11_]
          · replace hF := ite_f h11 hF
            have h11_ := h11
            try simp at h11_
            refine AW.condF (by decide) (by first | (simp [h1, h1_, h2, h3, h4, h4_, h3_, h6, h6_, h7, h7_, h8, h9, h10, h10_, h9_, h11, h11_]; done) | (simp [h1, h1_, h2, h3, h4, h4_, h3_, h6, h6_, h7, h7_, h8, h9, h10, h10_, h9_, h11, h11_]; omega)) ?_
            refine AW.skip ?_
            refine hK145 _ _ _ ?_
            exact Can.join (()) hF (by simp [h1, h1_, h2, h3, h4, h4_, h3_, h6, h6_, h7, h7_, h8, h9, h10, h10_, h9_, h11, h11_]) (by simp [h1, h1_, h2, h3, h4, h4_, h3_, h6, h6_, h7, h7_, h8, h9, h10, h10_, h9_, h11, h11_]) (by simp)
        · replace hF := ite_f h7 hF
          have h7_ := h7
          try simp at h7_
          try simp [h1, h1_, h2, h3, h4, h4_, h3_, h6, h6_, h7, h7_]
          repeat' apply And.intro
          any_goals (first | exact hG147 _ (by kernel_rfl) | refine hR147 _ _ _ ?_ | omega | (unfold maxLen; omega) | (simp [h1, h1_, h2, h3, h4, h4_, h3_, h6, h6_, h7, h7_]; done) | (simp [h1, h1_, h2, h3, h4, h4_, h3_, h6, h6_, h7, h7_]; omega))
          refine AW.wk [(0, AV.lst false false (List.map (AV.int .i64) v0)), (5, AV.lst false false (List.map (AV.int .i64) v0)), (6, AV.int .i64 (v0.length : Int)), (7, AV.int .i64 v2), (27, AV.bool false)] [] 0 (by simp [h1, h1_, h2, h3, h4, h4_, h3_, h6, h6_, h7, h7_]) (by simp [h1, h1_, h2, h3, h4, h4_, h3_, h6, h6_, h7, h7_]) (by simp) ?_
          refine AW.condF (by decide) (by simp [h1, h1_, h2, h3, h4, h4_, h3_, h6, h6_, h7, h7_]) ?_
          refine AW.skip ?_
          refine hK145 _ _ _ ?_
          exact Can.join (()) hF (by simp [h1, h1_, h2, h3, h4, h4_, h3_, h6, h6_, h7, h7_]) (by simp [h1, h1_, h2, h3, h4, h4_, h3_, h6, h6_, h7, h7_]) (by simp)
    · rintro ⟨⟩ hF
      try dsimp only at hF
      unfold roster_Valid.J2 at hF
      refine AW.region mixed [] [none, none] (by kernel_rfl) fun G144 R144 hG144 hR144 => ?_
      try simp [h1, h1_]
      repeat' apply And.intro
      any_goals (first | exact hG144 _ (by kernel_rfl) | refine hR144 _ _ _ ?_ | omega | (unfold maxLen; omega) | (simp [h1, h1_]; done) | (simp [h1, h1_]; omega))
      refine hK137 _ _ _ ?_
      refine Can.weak [(0, AV.lst false false (List.map (AV.int .i64) v0)), (5, AV.lst false false (List.map (AV.int .i64) v0)), (6, AV.int .i64 (v0.length : Int)), (7, AV.int .i64 (IntKind.wrap .i64 (v2 + 1)))] [] 0 (by simp [h1, h1_]) (by simp [h1, h1_]) (by simp) ?_
      exact Can.next (k' := n1) (IntKind.wrap .i64 (v2 + 1)) (by omega) hF (by simp [h1, h1_]) (by simp [h1, h1_]) (by simp)
  · replace hF := ite_f h1 hF
    have h1_ := h1
    try simp at h1_
    refine AW.condF (by decide) (by first | (simp [h1, h1_]; done) | (simp [h1, h1_]; omega)) ?_
    refine AW.exit ?_
    try simp
    refine hK113 _ _ _ ?_
    refine AW.seqR mixed [] [none, none, none, none, none] (by kernel_rfl) fun G150 R150 hG150 hR150 => ?_
    try simp [h1, h1_]
    repeat' apply And.intro
    try any_goals (first | omega | (unfold maxLen; omega) | (simp [h1, h1_]; done))
    obtain ⟨v6, h12, hF⟩ := bnd1_elim hF
    refine aCall_l (w_roster_of k _ _ h12) (by simp) [] [] [] rfl (.cons (.same (by simp [h1, h1_])) .nil) (by simp [h1, h1_]) (by decide) (by simp) (by simp) (.inl rfl) (by simp) (by simp) ?_
    obtain ⟨h13, hF⟩ := chk_elim hF
    try simp [h1, h1_, h13]
    repeat' apply And.intro
    any_goals (first | exact hG150 _ (by kernel_rfl) | refine hR150 _ _ _ ?_ | omega | (unfold maxLen; omega) | (simp [h1, h1_, h13]; done) | (simp [h1, h1_, h13]; omega))
    refine AW.wk [(2, AV.bool (v6 != (List.replicate 64 false)))] [] 0 (by simp [h1, h1_, h13]) (by simp [h1, h1_, h13]) (by simp) ?_
    simp only [Option.some.injEq] at hF
    subst hF
    refine AW.ret (hQ _ _ _ ?_ (matchO_0 ?_)).1
    · simp [Try.f50, h1, h1_, h13]
    · simp [h1, h1_, h13]
set_option maxHeartbeats 4000000 in
theorem w_roster_Encode (k : Nat) (v0 : (List Int)) (v1 : (List Int)) (v2 : Int) (hF : roster_Encode k v0 = some (v1, v2)) :
    FCall Try.prog 47 [AV.lst false false (List.map (AV.int .i64) v0)] [] (AV.tup [AV.lst false false (List.map (AV.int .i64) v1), AV.int .i64 v2]) [] := by
  unfold roster_Encode at hF
  refine FCall.enter Try.func47 rfl (by simp) (by decide) (by simp) (by simp) (by simp) (by simp) (by simp) ?_
  intro c0 w0 Q h0 hQ
  refine AW.wk [(0, AV.lst false false (List.map (AV.int .i64) v0))] [] 0 (by simp) (by simp) (by simp) ?_
  refine AW.seqR mixed [] [none, none] (by kernel_rfl) fun G62 R62 hG62 hR62 => ?_
  try simp
  repeat' apply And.intro
  any_goals (first | exact hG62 _ (by kernel_rfl) | refine hR62 _ _ _ ?_ | omega | (unfold maxLen; omega) | (simp; done) | (simp; omega))
  refine AW.wk [(0, AV.lst false false (List.map (AV.int .i64) v0))] [] 0 (by simp) (by simp) (by simp) ?_
  refine AW.seq fun K65 hK65 => ?_
  refine AW.seqR mixed [] [none, none, none] (by kernel_rfl) fun G66 R66 hG66 hR66 => ?_
  try simp
  repeat' apply And.intro
  try any_goals (first | omega | (unfold maxLen; omega) | (simp; done))
  obtain ⟨v3, h1, hF⟩ := bnd1_elim hF
  refine aCall_l (w_roster_Valid k _ _ h1) (by simp) [] [] [] rfl (.cons (.same (by simp)) .nil) (by simp) (by decide) (by simp) (by simp) (.inl rfl) (by simp) (by simp) ?_
  try simp
  repeat' apply And.intro
  any_goals (first | exact hG66 _ (by kernel_rfl) | refine hR66 _ _ _ ?_ | omega | (unfold maxLen; omega) | (simp; done) | (simp; omega))
  refine AW.wk [(0, AV.lst false false (List.map (AV.int .i64) v0)), (9, AV.bool (!v3))] [] 0 (by simp) (by simp) (by simp) ?_
  by_cases h2 : (!v3) = true
  · replace hF := ite_t h2 hF
    have h2_ := h2
    try simp at h2_
    refine AW.condT (by decide) (by first | (simp [h2, h2_]; done) | (simp [h2, h2_]; omega)) ?_
    refine AW.seqR mixed [] [none, none] (by kernel_rfl) fun G67 R67 hG67 hR67 => ?_
    try simp [h2, h2_]
    repeat' apply And.intro
    any_goals (first | exact hG67 _ (by kernel_rfl) | refine hR67 _ _ _ ?_ | omega | (unfold maxLen; omega) | (simp [h2, h2_]; done) | (simp [h2, h2_]; omega))
    refine AW.wk [(2, AV.lst true true (List.map (AV.int .i64) ([] : List Int))), (3, AV.int .i64 43)] [] 0 (by simp [h2, h2_]) (by simp [h2, h2_]) (by simp) ?_
    refine AW.flg [(2, AV.lst false false (List.map (AV.int .i64) ([] : List Int)))] [] ⟨(.lst (by simp)), trivial⟩ trivial (by simp) ?_
    simp only [Option.some.injEq, Prod.mk.injEq] at hF
    obtain ⟨e0, e1⟩ := hF
    subst e0 e1
    refine AW.ret (hQ _ _ _ ?_ (matchO_0 ?_)).1
    · simp [Try.f47, h2, h2_]
    · simp [h2, h2_]
  · replace hF := ite_f h2 hF
    have h2_ := h2
    try simp at h2_
    refine AW.condF (by decide) (by first | (simp [h2, h2_]; done) | (simp [h2, h2_]; omega)) ?_
    refine AW.skip ?_
    refine hK65 _ _ _ ?_
    refine AW.seqR mixed [10] [none, none] (by kernel_rfl) fun G68 R68 hG68 hR68 => ?_
    try simp [h2, h2_]
    repeat' apply And.intro
    any_goals (first | exact hG68 _ (by kernel_rfl) | refine hR68 _ _ _ ?_ | omega | (unfold maxLen; omega) | (simp [h2, h2_]; done) | (simp [h2, h2_]; omega))
    refine AW.wk [(0, AV.lst false false (List.map (AV.int .i64) v0)), (4, AV.slc 0 0 1 (([0, 0] : List Int).length) true)] [(0, .cells (List.map (AV.int .i64) ([0, 0] : List Int)))] 1 (by simp [h2, h2_]) (by simp [h2, h2_]) (by simp) ?_
    refine AW.seq fun K95 hK95 => ?_
    refine AW.seqR mixed [] [none, none, none] (by kernel_rfl) fun G96 R96 hG96 hR96 => ?_
    try simp [h2, h2_]
    repeat' apply And.intro
    any_goals (first | exact hG96 _ (by kernel_rfl) | refine hR96 _ _ _ ?_ | omega | (unfold maxLen; omega) | (simp [h2, h2_]; done) | (simp [h2, h2_]; omega))
    refine AW.wk [(4, AV.slc 0 0 1 (([0, 0] : List Int).length) true), (11, AV.lst false false (List.map (AV.int .i64) v0)), (12, AV.int .i64 (v0.length : Int)), (13, AV.int .i64 0)] [(0, .cells (List.map (AV.int .i64) ([0, 0] : List Int)))] 1 (by simp [h2, h2_]) (by simp [h2, h2_]) (by simp) ?_
    refine AW.block ?_
    refine AW.loopF (α := (Int × (List Int))) (fun n (v4, v5) => roster_Encode.L1 k v0 n v4 v5 = some (v1, v2)) (fun (v4, v5) => [(4, AV.slc 0 0 1 v5.length true), (11, AV.lst false false (List.map (AV.int .i64) v0)), (12, AV.int .i64 (v0.length : Int)), (13, AV.int .i64 v4)]) (fun (v4, v5) => [(0, .cells (List.map (AV.int .i64) v5))]) 1 k ((0, ([0, 0] : List Int))) hF (by simp [h2, h2_]) (by simp [h2, h2_]) (by simp) ?_
    rintro (_|n1) ⟨v4, v5⟩ hF K113 hK113
    · try dsimp only at hF
      rw [roster_Encode.L1] at hF; cases hF
    try dsimp only at hF
    rw [roster_Encode.L1] at hF
    refine AW.seqR mixed [] [none] (by kernel_rfl) fun G114 R114 hG114 hR114 => ?_
    try simp [h2, h2_]
    repeat' apply And.intro
    any_goals (first | exact hG114 _ (by kernel_rfl) | refine hR114 _ _ _ ?_ | omega | (unfold maxLen; omega) | (simp [h2, h2_]; done) | (simp [h2, h2_]; omega))
    refine AW.wk [(4, AV.slc 0 0 1 v5.length true), (11, AV.lst false false (List.map (AV.int .i64) v0)), (12, AV.int .i64 (v0.length : Int)), (13, AV.int .i64 v4), (14, AV.bool (decide (v4 < (v0.length : Int))))] [(0, .cells (List.map (AV.int .i64) v5))] 1 (by simp [h2, h2_]) (by simp [h2, h2_]) (by simp) ?_
    refine AW.seq fun K115 hK115 => ?_
    by_cases h3 : v4 < (v0.length : Int)
    · replace hF := ite_t h3 hF
      have h3_ := h3
      try simp at h3_
      refine AW.condT (by decide) (by first | (simp [h2, h2_, h3, h3_]; done) | (simp [h2, h2_, h3, h3_]; omega)) ?_
      refine AW.skip ?_
      refine hK115 _ _ _ ?_
      refine AW.seq fun K118 hK118 => ?_
      refine AW.block ?_
      refine AW.seqR mixed [] [none, none, none] (by kernel_rfl) fun G119 R119 hG119 hR119 => ?_
      obtain ⟨v6, h4, h5, h6, hF⟩ := idx_elim hF
      have h6_ := get_of h6
      try simp at h6_
      have h5_ := h5
      try simp at h5_
      try simp [h2, h2_, h3, h3_, h4, h5, h6, h6_, h5_]
      repeat' apply And.intro
      any_goals (first | exact hG119 _ (by kernel_rfl) | refine hR119 _ _ _ ?_ | omega | (unfold maxLen; omega) | (simp [h2, h2_, h3, h3_, h4, h5, h6, h6_, h5_]; done) | (simp [h2, h2_, h3, h3_, h4, h5, h6, h6_, h5_]; omega))
      refine AW.wk [(4, AV.slc 0 0 1 v5.length true), (6, AV.int .i64 v6), (11, AV.lst false false (List.map (AV.int .i64) v0)), (12, AV.int .i64 (v0.length : Int)), (13, AV.int .i64 v4)] [(0, .cells (List.map (AV.int .i64) v5))] 1 (by simp [h2, h2_, h3, h3_, h4, h5, h6, h6_, h5_]) (by simp [h2, h2_, h3, h3_, h4, h5, h6, h6_, h5_]) (by simp) ?_
      refine AW.region mixed [] [none, none, none, none, none, none, none, none, none, none, none] (by kernel_rfl) fun G120 R120 hG120 hR120 => ?_
      obtain ⟨⟨h7, h8⟩, hF⟩ := chk_elim hF
      have h8_ := ne_of_lt h8
      obtain ⟨v7, h9, h10, h11, hF⟩ := idx_elim hF
      have h11_ := get_of h11
      try simp at h11_
      have h10_ := h10
      try simp at h10_
      obtain ⟨h12, hF⟩ := chk_elim hF
      obtain ⟨⟨h13, h14⟩, hF⟩ := chk_elim hF
      have h14_ := ne_of_lt h14
      try simp [h2, h2_, h3, h3_, h4, h5, h6, h6_, h5_, h7, h8, h8_, h9, h10, h11, h11_, h10_, h12, h13, h14, h14_]
      repeat' apply And.intro
      any_goals (first | exact hG120 _ (by kernel_rfl) | refine hR120 _ _ _ ?_ | omega | (unfold maxLen; omega) | (simp [h2, h2_, h3, h3_, h4, h5, h6, h6_, h5_, h7, h8, h8_, h9, h10, h11, h11_, h10_, h12, h13, h14, h14_]; done) | (simp [h2, h2_, h3, h3_, h4, h5, h6, h6_, h5_, h7, h8, h8_, h9, h10, h11, h11_, h10_, h12, h13, h14, h14_]; omega))
      refine hK118 _ _ _ ?_
      refine AW.wk [(4, AV.slc 0 0 1 ((v5.set (IntKind.wrap .i64 (Int.tdiv v6 32)).toNat (bitsV .or .i64 v7 (IntKind.wrap .i64 (1 * 2 ^ (min ((Int.tmod v6 32).toNat) 64))))).length) true), (11, AV.lst false false (List.map (AV.int .i64) v0)), (12, AV.int .i64 (v0.length : Int)), (13, AV.int .i64 v4)] [(0, .cells (List.map (AV.int .i64) (v5.set (IntKind.wrap .i64 (Int.tdiv v6 32)).toNat (bitsV .or .i64 v7 (IntKind.wrap .i64 (1 * 2 ^ (min ((Int.tmod v6 32).toNat) 64)))))))] 1 (by simp [h2, h2_, h3, h3_, h4, h5, h6, h6_, h5_, h7, h8, h8_, h9, h10, h11, h11_, h10_, h12, h13, h14, h14_]) (by simp [h2, h2_, h3, h3_, h4, h5, h6, h6_, h5_, h7, h8, h8_, h9, h10, h11, h11_, h10_, h12, h13, h14, h14_]) (by simp) ?_
      refine AW.region mixed [] [none, none] (by kernel_rfl) fun G121 R121 hG121 hR121 => ?_
      try simp [h2, h2_, h3, h3_, h4, h5, h6, h6_, h5_, h7, h8, h8_, h9, h10, h11, h11_, h10_, h12, h13, h14, h14_]
      repeat' apply And.intro
      any_goals (first | exact hG121 _ (by kernel_rfl) | refine hR121 _ _ _ ?_ | omega | (unfold maxLen; omega) | (simp [h2, h2_, h3, h3_, h4, h5, h6, h6_, h5_, h7, h8, h8_, h9, h10, h11, h11_, h10_, h12, h13, h14, h14_]; done) | (simp [h2, h2_, h3, h3_, h4, h5, h6, h6_, h5_, h7, h8, h8_, h9, h10, h11, h11_, h10_, h12, h13, h14, h14_]; omega))
      refine hK113 _ _ _ ?_
      refine Can.weak [(4, AV.slc 0 0 1 ((v5.set (IntKind.wrap .i64 (Int.tdiv v6 32)).toNat (bitsV .or .i64 v7 (IntKind.wrap .i64 (1 * 2 ^ (min ((Int.tmod v6 32).toNat) 64))))).length) true), (11, AV.lst false false (List.map (AV.int .i64) v0)), (12, AV.int .i64 (v0.length : Int)), (13, AV.int .i64 (IntKind.wrap .i64 (v4 + 1)))] [(0, .cells (List.map (AV.int .i64) (v5.set (IntKind.wrap .i64 (Int.tdiv v6 32)).toNat (bitsV .or .i64 v7 (IntKind.wrap .i64 (1 * 2 ^ (min ((Int.tmod v6 32).toNat) 64)))))))] 1 (by simp [h2, h2_, h3, h3_, h4, h5, h6, h6_, h5_, h7, h8, h8_, h9, h10, h11, h11_, h10_, h12, h13, h14, h14_]) (by simp [h2, h2_, h3, h3_, h4, h5, h6, h6_, h5_, h7, h8, h8_, h9, h10, h11, h11_, h10_, h12, h13, h14, h14_]) (by simp) ?_
      exact Can.next (k' := n1) ((IntKind.wrap .i64 (v4 + 1), v5.set (IntKind.wrap .i64 (Int.tdiv v6 32)).toNat (bitsV .or .i64 v7 (IntKind.wrap .i64 (1 * 2 ^ (min ((Int.tmod v6 32).toNat) 64)))))) (by omega) hF (by simp [h2, h2_, h3, h3_, h4, h5, h6, h6_, h5_, h7, h8, h8_, h9, h10, h11, h11_, h10_, h12, h13, h14, h14_]) (by simp [h2, h2_, h3, h3_, h4, h5, h6, h6_, h5_, h7, h8, h8_, h9, h10, h11, h11_, h10_, h12, h13, h14, h14_]) (by simp)
    · replace hF := ite_f h3 hF
      have h3_ := h3
      try simp at h3_
      refine AW.condF (by decide) (by first | (simp [h2, h2_, h3, h3_]; done) | (simp [h2, h2_, h3, h3_]; omega)) ?_
      refine AW.exit ?_
      try simp
      refine hK95 _ _ _ ?_
      refine AW.seqR mixed [] [none, none, none] (by kernel_rfl) fun G122 R122 hG122 hR122 => ?_
      try simp [h2, h2_, h3, h3_]
      repeat' apply And.intro
      any_goals (first | exact hG122 _ (by kernel_rfl) | refine hR122 _ _ _ ?_ | omega | (unfold maxLen; omega) | (simp [h2, h2_, h3, h3_]; done) | (simp [h2, h2_, h3, h3_]; omega))
      refine AW.wk [(2, AV.slc 0 0 1 v5.length true), (3, AV.int .i64 0)] [(0, .cells (List.map (AV.int .i64) v5))] 1 (by simp [h2, h2_, h3, h3_]) (by simp [h2, h2_, h3, h3_]) (by simp) ?_
      refine AW.wk [(2, AV.slc 0 0 1 v5.length true), (3, AV.int .i64 0)] [(0, .cells (List.map (AV.int .i64) v5))] 1 (by simp [h2, h2_, h3, h3_]) (by simp [h2, h2_, h3, h3_]) (by simp) ?_
      refine AW.frz 0 (o := .cells (List.map (AV.int .i64) v5)) (by simp [h2, h2_, h3, h3_]) rfl [(2, AV.lst false true (List.map (AV.int .i64) v5))] [] ⟨(.l (by simp) (by simp) (by simp) (by simp)), trivial⟩ trivial ?_
      refine AW.flg [(2, AV.lst false false (List.map (AV.int .i64) v5))] [] ⟨(.lst (by simp)), trivial⟩ trivial (by simp) ?_
      simp only [Option.some.injEq, Prod.mk.injEq] at hF
      obtain ⟨e0, e1⟩ := hF
      subst e0 e1
      refine AW.ret (hQ _ _ _ ?_ (matchO_0 ?_)).1
      · simp [Try.f47, h2, h2_, h3, h3_]
      · simp [h2, h2_, h3, h3_]
end Go.TF
