/- Walks: the Go text computes the Lean functions (printed by a program of our own). -/
import Derived.Test.YtepdfenlkeaefaaEPu
import Derived.Test.YtepdfenlkeaefaaEAbsT
import Derived.Test.YtepdfenlkeaefaaEWa0
set_option linter.unusedVariables false
set_option linter.unusedSimpArgs false
set_option maxRecDepth 100000
namespace Go.TF
open Go Go.Abs Go.Proofs Go.Proofs.YtepdfenlkeaefaaET
set_option maxHeartbeats 4000000 in
theorem w_beacon_public (k : Nat) (v0 : Int) (v1 : Bool) (hF : beacon_public k v0 = some v1) :
    FCall Try.prog 80 [AV.int .i64 v0] [] (AV.bool v1) [] := by
  unfold beacon_public at hF
  refine FCall.enter Try.func80 rfl (by simp) (by decide) (by simp) (by simp) (by simp) (by simp) (by simp) ?_
  intro c0 w0 Q h0 hQ
  refine AW.wk [(0, AV.int .i64 v0)] [] 0 (by simp) (by simp) (by simp) ?_
  refine AW.seqR mixed [] [none] (by kernel_rfl) fun G3 R3 hG3 hR3 => ?_
  try simp
  repeat' apply And.intro
  any_goals (first | exact hG3 _ (by kernel_rfl) | refine hR3 _ _ _ ?_ | omega | (unfold maxLen; omega) | (simp; done) | (simp; omega))
  refine AW.wk [(0, AV.int .i64 v0)] [] 0 (by simp) (by simp) (by simp) ?_
  refine AW.seqR mixed [] [none, none, none, some (5, true), some (5, true), none, none] (by kernel_rfl) fun G4 R4 hG4 hR4 => ?_
  by_cases h1 : 0 ≤ v0
  · replace hF := ite_t h1 hF
    have h1_ := h1
    try simp at h1_
    try simp [h1, h1_]
    repeat' apply And.intro
    any_goals (first | exact hG4 _ (by kernel_rfl) | refine hR4 _ _ _ ?_ | omega | (unfold maxLen; omega) | (simp [h1, h1_]; done) | (simp [h1, h1_]; omega))
    refine AW.wk [(2, AV.bool (decide (v0 < 4294967296)))] [] 0 (by simp [h1, h1_]) (by simp [h1, h1_]) (by simp) ?_
    simp only [Option.some.injEq] at hF
    subst hF
    refine AW.ret (hQ _ _ _ ?_ (matchO_0 ?_)).1
    · simp [Try.f80, h1, h1_]
    · simp [h1, h1_]
  · replace hF := ite_f h1 hF
    have h1_ := h1
    try simp at h1_
    try simp [h1, h1_]
    repeat' apply And.intro
    any_goals (first | exact hG4 _ (by kernel_rfl) | refine hR4 _ _ _ ?_ | omega | (unfold maxLen; omega) | (simp [h1, h1_]; done) | (simp [h1, h1_]; omega))
    refine AW.wk [(2, AV.bool false)] [] 0 (by simp [h1, h1_]) (by simp [h1, h1_]) (by simp) ?_
    simp only [Option.some.injEq] at hF
    subst hF
    refine AW.ret (hQ _ _ _ ?_ (matchO_0 ?_)).1
    · simp [Try.f80, h1, h1_]
    · simp [h1, h1_]
set_option maxHeartbeats 4000000 in
theorem w_beacon_Mix_1 (k : Nat) (v0 : Int) (v1 : Bool) (hF : beacon_Mix_1 k v0 = some v1) :
    FCall Try.prog 79 [AV.int .i64 v0] [] (AV.bool v1) [] := by
  unfold beacon_Mix_1 at hF
  refine FCall.enter Try.func79 rfl (by simp) (by decide) (by simp) (by simp) (by simp) (by simp) (by simp) ?_
  intro c0 w0 Q h0 hQ
  refine AW.wk [(0, AV.int .i64 v0)] [] 0 (by simp) (by simp) (by simp) ?_
  refine AW.seqR mixed [] [none] (by kernel_rfl) fun G3 R3 hG3 hR3 => ?_
  try simp
  repeat' apply And.intro
  any_goals (first | exact hG3 _ (by kernel_rfl) | refine hR3 _ _ _ ?_ | omega | (unfold maxLen; omega) | (simp; done) | (simp; omega))
  refine AW.wk [(0, AV.int .i64 v0)] [] 0 (by simp) (by simp) (by simp) ?_
  refine AW.seqR mixed [] [none, none, none, none] (by kernel_rfl) fun G4 R4 hG4 hR4 => ?_
  try simp
  repeat' apply And.intro
  try any_goals (first | omega | (unfold maxLen; omega) | (simp; done))
  obtain ⟨v2, h1, hF⟩ := bnd1_elim hF
  refine aCall_l (w_beacon_public k _ _ h1) (by simp) [] [] [] rfl (.cons (.same (by simp)) .nil) (by simp) (by decide) (by simp) (by simp) (.inl rfl) (by simp) (by simp) ?_
  try simp
  repeat' apply And.intro
  any_goals (first | exact hG4 _ (by kernel_rfl) | refine hR4 _ _ _ ?_ | omega | (unfold maxLen; omega) | (simp; done) | (simp; omega))
  refine AW.wk [(2, AV.bool (!v2))] [] 0 (by simp) (by simp) (by simp) ?_
  simp only [Option.some.injEq] at hF
  subst hF
  refine AW.ret (hQ _ _ _ ?_ (matchO_0 ?_)).1
  · simp [Try.f79]
  · simp
set_option maxHeartbeats 4000000 in
theorem w_slices_IndexFunc_int_int_Mix_1 (k : Nat) (v0 : (List Int)) (v1 : Int) (hF : slices_IndexFunc_int_int_Mix_1 k v0 = some v1) :
    FCall Try.prog 113 [AV.lst false false (List.map (AV.int .i64) v0), AV.fn 79 []] [] (AV.int .i64 v1) [] := by
  unfold slices_IndexFunc_int_int_Mix_1 at hF
  refine FCall.enter Try.func113 rfl (by simp) (by decide) (by simp) (by simp) (by simp) (by simp) (by simp) ?_
  intro c0 w0 Q h0 hQ
  refine AW.wk [(0, AV.lst false false (List.map (AV.int .i64) v0)), (1, AV.fn 79 [])] [] 0 (by simp) (by simp) (by simp) ?_
  refine AW.seqR mixed [] [none] (by kernel_rfl) fun G88 R88 hG88 hR88 => ?_
  try simp
  repeat' apply And.intro
  any_goals (first | exact hG88 _ (by kernel_rfl) | refine hR88 _ _ _ ?_ | omega | (unfold maxLen; omega) | (simp; done) | (simp; omega))
  refine AW.wk [(0, AV.lst false false (List.map (AV.int .i64) v0)), (1, AV.fn 79 [])] [] 0 (by simp) (by simp) (by simp) ?_
  refine AW.seq fun K131 hK131 => ?_
  refine AW.seqR mixed [] [none, none, none] (by kernel_rfl) fun G132 R132 hG132 hR132 => ?_
  try simp
  repeat' apply And.intro
  any_goals (first | exact hG132 _ (by kernel_rfl) | refine hR132 _ _ _ ?_ | omega | (unfold maxLen; omega) | (simp; done) | (simp; omega))
  refine AW.wk [(0, AV.lst false false (List.map (AV.int .i64) v0)), (1, AV.fn 79 []), (7, AV.int .i64 (v0.length : Int)), (8, AV.int .i64 0)] [] 0 (by simp) (by simp) (by simp) ?_
  refine AW.block ?_
  refine AW.loopF (α := Int) (fun n v2 => slices_IndexFunc_int_int_Mix_1.L1 k v0 n v2 = some v1) (fun v2 => [(0, AV.lst false false (List.map (AV.int .i64) v0)), (1, AV.fn 79 []), (7, AV.int .i64 (v0.length : Int)), (8, AV.int .i64 v2)]) (fun v2 => []) 0 k (0) hF (by simp) (by simp) (by simp) ?_
  rintro (_|n1) v2 hF K163 hK163
  · try dsimp only at hF
    rw [slices_IndexFunc_int_int_Mix_1.L1] at hF; cases hF
  try dsimp only at hF
  rw [slices_IndexFunc_int_int_Mix_1.L1] at hF
  refine AW.seqR mixed [] [none] (by kernel_rfl) fun G164 R164 hG164 hR164 => ?_
  try simp
  repeat' apply And.intro
  any_goals (first | exact hG164 _ (by kernel_rfl) | refine hR164 _ _ _ ?_ | omega | (unfold maxLen; omega) | (simp; done) | (simp; omega))
  refine AW.wk [(0, AV.lst false false (List.map (AV.int .i64) v0)), (1, AV.fn 79 []), (7, AV.int .i64 (v0.length : Int)), (8, AV.int .i64 v2), (9, AV.bool (decide (v2 < (v0.length : Int))))] [] 0 (by simp) (by simp) (by simp) ?_
  refine AW.seq fun K165 hK165 => ?_
  by_cases h1 : v2 < (v0.length : Int)
  · replace hF := ite_t h1 hF
    have h1_ := h1
    try simp at h1_
    refine AW.condT (by decide) (by first | (simp [h1, h1_]; done) | (simp [h1, h1_]; omega)) ?_
    refine AW.skip ?_
    refine hK165 _ _ _ ?_
    refine AW.seq fun K169 hK169 => ?_
    refine AW.block ?_
    refine AW.seqR mixed [] [none, none] (by kernel_rfl) fun G170 R170 hG170 hR170 => ?_
    try simp [h1, h1_]
    repeat' apply And.intro
    any_goals (first | exact hG170 _ (by kernel_rfl) | refine hR170 _ _ _ ?_ | omega | (unfold maxLen; omega) | (simp [h1, h1_]; done) | (simp [h1, h1_]; omega))
    refine AW.wk [(0, AV.lst false false (List.map (AV.int .i64) v0)), (1, AV.fn 79 []), (5, AV.int .i64 v2), (7, AV.int .i64 (v0.length : Int)), (8, AV.int .i64 v2)] [] 0 (by simp [h1, h1_]) (by simp [h1, h1_]) (by simp) ?_
    refine AW.seqR mixed [] [none, none, none, none, none, none] (by kernel_rfl) fun G171 R171 hG171 hR171 => ?_
    obtain ⟨v3, h2, h3, h4, hF⟩ := idx_elim hF
    have h4_ := get_of h4
    try simp at h4_
    have h3_ := h3
    try simp at h3_
    try simp [h1, h1_, h2, h3, h4, h4_, h3_]
    repeat' apply And.intro
    try any_goals (first | omega | (unfold maxLen; omega) | (simp [h1, h1_, h2, h3, h4, h4_, h3_]; done))
    obtain ⟨v4, h5, hF⟩ := bnd1_elim hF
    refine aCall_l (w_beacon_Mix_1 k _ _ h5) (by simp) [] [] [] rfl (.cons (.same (by simp [h1, h1_, h2, h3, h4, h4_, h3_])) .nil) (by simp [h1, h1_, h2, h3, h4, h4_, h3_]) (by decide) (by simp) (by simp) (.inl rfl) (by simp) (by simp) ?_
    try simp [h1, h1_, h2, h3, h4, h4_, h3_]
    repeat' apply And.intro
    any_goals (first | exact hG171 _ (by kernel_rfl) | refine hR171 _ _ _ ?_ | omega | (unfold maxLen; omega) | (simp [h1, h1_, h2, h3, h4, h4_, h3_]; done) | (simp [h1, h1_, h2, h3, h4, h4_, h3_]; omega))
    refine AW.wk [(0, AV.lst false false (List.map (AV.int .i64) v0)), (1, AV.fn 79 []), (5, AV.int .i64 v2), (7, AV.int .i64 (v0.length : Int)), (8, AV.int .i64 v2), (16, AV.bool v4)] [] 0 (by simp [h1, h1_, h2, h3, h4, h4_, h3_]) (by simp [h1, h1_, h2, h3, h4, h4_, h3_]) (by simp) ?_
    by_cases h6 : v4 = true
    · replace hF := ite_t h6 hF
      have h6_ := h6
      try simp at h6_
      refine AW.condT (by decide) (by first | (simp [h1, h1_, h2, h3, h4, h4_, h3_, h6, h6_]; done) | (simp [h1, h1_, h2, h3, h4, h4_, h3_, h6, h6_]; omega)) ?_
      refine AW.seqR mixed [] [none, none] (by kernel_rfl) fun G172 R172 hG172 hR172 => ?_
      try simp [h1, h1_, h2, h3, h4, h4_, h3_, h6, h6_]
      repeat' apply And.intro
      any_goals (first | exact hG172 _ (by kernel_rfl) | refine hR172 _ _ _ ?_ | omega | (unfold maxLen; omega) | (simp [h1, h1_, h2, h3, h4, h4_, h3_, h6, h6_]; done) | (simp [h1, h1_, h2, h3, h4, h4_, h3_, h6, h6_]; omega))
      refine AW.wk [(4, AV.int .i64 v2)] [] 0 (by simp [h1, h1_, h2, h3, h4, h4_, h3_, h6, h6_]) (by simp [h1, h1_, h2, h3, h4, h4_, h3_, h6, h6_]) (by simp) ?_
      simp only [Option.some.injEq] at hF
      subst hF
      refine AW.ret (hQ _ _ _ ?_ (matchO_0 ?_)).1
      · simp [Try.f113, h1, h1_, h2, h3, h4, h4_, h3_, h6, h6_]
      · simp [h1, h1_, h2, h3, h4, h4_, h3_, h6, h6_]
    · replace hF := ite_f h6 hF
      have h6_ := h6
      try simp at h6_
      refine AW.condF (by decide) (by first | (simp [h1, h1_, h2, h3, h4, h4_, h3_, h6, h6_]; done) | (simp [h1, h1_, h2, h3, h4, h4_, h3_, h6, h6_]; omega)) ?_
      refine AW.skip ?_
      refine hK169 _ _ _ ?_
      refine AW.region mixed [] [none, none] (by kernel_rfl) fun G173 R173 hG173 hR173 => ?_
      try simp [h1, h1_, h2, h3, h4, h4_, h3_, h6, h6_]
      repeat' apply And.intro
      any_goals (first | exact hG173 _ (by kernel_rfl) | refine hR173 _ _ _ ?_ | omega | (unfold maxLen; omega) | (simp [h1, h1_, h2, h3, h4, h4_, h3_, h6, h6_]; done) | (simp [h1, h1_, h2, h3, h4, h4_, h3_, h6, h6_]; omega))
      refine hK163 _ _ _ ?_
      refine Can.weak [(0, AV.lst false false (List.map (AV.int .i64) v0)), (1, AV.fn 79 []), (7, AV.int .i64 (v0.length : Int)), (8, AV.int .i64 (IntKind.wrap .i64 (v2 + 1)))] [] 0 (by simp [h1, h1_, h2, h3, h4, h4_, h3_, h6, h6_]) (by simp [h1, h1_, h2, h3, h4, h4_, h3_, h6, h6_]) (by simp) ?_
      exact Can.next (k' := n1) (IntKind.wrap .i64 (v2 + 1)) (by omega) hF (by simp [h1, h1_, h2, h3, h4, h4_, h3_, h6, h6_]) (by simp [h1, h1_, h2, h3, h4, h4_, h3_, h6, h6_]) (by simp)
  · replace hF := ite_f h1 hF
    have h1_ := h1
    try simp at h1_
    refine AW.condF (by decide) (by first | (simp [h1, h1_]; done) | (simp [h1, h1_]; omega)) ?_
    refine AW.exit ?_
    try simp
    refine hK131 _ _ _ ?_
    refine AW.seqR mixed [] [none] (by kernel_rfl) fun G174 R174 hG174 hR174 => ?_
    try simp [h1, h1_]
    repeat' apply And.intro
    any_goals (first | exact hG174 _ (by kernel_rfl) | refine hR174 _ _ _ ?_ | omega | (unfold maxLen; omega) | (simp [h1, h1_]; done) | (simp [h1, h1_]; omega))
    refine AW.wk [(4, AV.int .i64 (-1))] [] 0 (by simp [h1, h1_]) (by simp [h1, h1_]) (by simp) ?_
    simp only [Option.some.injEq] at hF
    subst hF
    refine AW.ret (hQ _ _ _ ?_ (matchO_0 ?_)).1
    · simp [Try.f113, h1, h1_]
    · simp [h1, h1_]
set_option maxHeartbeats 4000000 in
theorem w_slices_ContainsFunc_int_int_Mix_1 (k : Nat) (v0 : (List Int)) (v1 : Bool) (hF : slices_ContainsFunc_int_int_Mix_1 k v0 = some v1) :
    FCall Try.prog 78 [AV.lst false false (List.map (AV.int .i64) v0), AV.fn 79 []] [] (AV.bool v1) [] := by
  unfold slices_ContainsFunc_int_int_Mix_1 at hF
  refine FCall.enter Try.func78 rfl (by simp) (by decide) (by simp) (by simp) (by simp) (by simp) (by simp) ?_
  intro c0 w0 Q h0 hQ
  refine AW.wk [(0, AV.lst false false (List.map (AV.int .i64) v0)), (1, AV.fn 79 [])] [] 0 (by simp) (by simp) (by simp) ?_
  refine AW.seqR mixed [] [none] (by kernel_rfl) fun G3 R3 hG3 hR3 => ?_
  try simp
  repeat' apply And.intro
  any_goals (first | exact hG3 _ (by kernel_rfl) | refine hR3 _ _ _ ?_ | omega | (unfold maxLen; omega) | (simp; done) | (simp; omega))
  refine AW.wk [(0, AV.lst false false (List.map (AV.int .i64) v0)), (1, AV.fn 79 [])] [] 0 (by simp) (by simp) (by simp) ?_
  refine AW.seqR mixed [] [none, none, none, none, none] (by kernel_rfl) fun G4 R4 hG4 hR4 => ?_
  try simp
  repeat' apply And.intro
  try any_goals (first | omega | (unfold maxLen; omega) | (simp; done))
  obtain ⟨v2, h1, hF⟩ := bnd1_elim hF
  refine aCall_l (w_slices_IndexFunc_int_int_Mix_1 k _ _ h1) (by simp) [] [] [] rfl (.cons (.same (by simp)) (.cons (.same (by simp)) .nil)) (by simp) (by decide) (by simp) (by simp) (.inl rfl) (by simp) (by simp) ?_
  try simp
  repeat' apply And.intro
  any_goals (first | exact hG4 _ (by kernel_rfl) | refine hR4 _ _ _ ?_ | omega | (unfold maxLen; omega) | (simp; done) | (simp; omega))
  refine AW.wk [(4, AV.bool (decide (0 ≤ v2)))] [] 0 (by simp) (by simp) (by simp) ?_
  simp only [Option.some.injEq] at hF
  subst hF
  refine AW.ret (hQ _ _ _ ?_ (matchO_0 ?_)).1
  · simp [Try.f78]
  · simp
set_option maxHeartbeats 4000000 in
theorem w_beacon_Mix (k : Nat) (v0 : (List Int)) (v1 : Int) (v2 : Int) (v3 : Int) (hF : beacon_Mix k v0 v1 = some (v2, v3)) :
    FCall Try.prog 38 [AV.lst false false (List.map (AV.int .i64) v0), AV.int .i64 v1] [] (AV.tup [AV.int .i64 v2, AV.int .i64 v3]) [] := by
  unfold beacon_Mix at hF
  refine FCall.enter Try.func38 rfl (by simp) (by decide) (by simp) (by simp) (by simp) (by simp) (by simp) ?_
  intro c0 w0 Q h0 hQ
  refine AW.wk [(0, AV.lst false false (List.map (AV.int .i64) v0)), (1, AV.int .i64 v1)] [] 0 (by simp) (by simp) (by simp) ?_
  refine AW.seqR mixed [] [none, none] (by kernel_rfl) fun G86 R86 hG86 hR86 => ?_
  try simp
  repeat' apply And.intro
  any_goals (first | exact hG86 _ (by kernel_rfl) | refine hR86 _ _ _ ?_ | omega | (unfold maxLen; omega) | (simp; done) | (simp; omega))
  refine AW.wk [(0, AV.lst false false (List.map (AV.int .i64) v0)), (1, AV.int .i64 v1)] [] 0 (by simp) (by simp) (by simp) ?_
  refine AW.seq fun K93 hK93 => ?_
  refine AW.block ?_
  refine AW.seqR mixed [] [none, none, none, none] (by kernel_rfl) fun G94 R94 hG94 hR94 => ?_
  try simp
  repeat' apply And.intro
  any_goals (first | exact hG94 _ (by kernel_rfl) | refine hR94 _ _ _ ?_ | omega | (unfold maxLen; omega) | (simp; done) | (simp; omega))
  refine AW.wk [(0, AV.lst false false (List.map (AV.int .i64) v0)), (1, AV.int .i64 v1), (9, AV.bool (decide (64 < (v0.length : Int))))] [] 0 (by simp) (by simp) (by simp) ?_
  by_cases h1 : 64 < (v0.length : Int)
  · replace hF := ite_t h1 hF
    have h1_ := h1
    try simp at h1_
    refine AW.condT (by decide) (by first | (simp [h1, h1_]; done) | (simp [h1, h1_]; omega)) ?_
    refine AW.seqR mixed [] [none, none] (by kernel_rfl) fun G95 R95 hG95 hR95 => ?_
    try simp [h1, h1_]
    repeat' apply And.intro
    any_goals (first | exact hG95 _ (by kernel_rfl) | refine hR95 _ _ _ ?_ | omega | (unfold maxLen; omega) | (simp [h1, h1_]; done) | (simp [h1, h1_]; omega))
    refine AW.wk [(4, AV.int .i64 0), (5, AV.int .i64 3)] [] 0 (by simp [h1, h1_]) (by simp [h1, h1_]) (by simp) ?_
    simp only [Option.some.injEq, Prod.mk.injEq] at hF
    obtain ⟨e0, e1⟩ := hF
    subst e0 e1
    refine AW.ret (hQ _ _ _ ?_ (matchO_0 ?_)).1
    · simp [Try.f38, h1, h1_]
    · simp [h1, h1_]
  · replace hF := ite_f h1 hF
    have h1_ := h1
    try simp at h1_
    refine AW.condF (by decide) (by first | (simp [h1, h1_]; done) | (simp [h1, h1_]; omega)) ?_
    refine AW.seqR mixed [] [none, none, none, some (16, false), some (16, false), none, none, some (20, false), some (20, false), none, none] (by kernel_rfl) fun G96 R96 hG96 hR96 => ?_
    by_cases h2 : v1 < 1
    · replace hF := ite_t h2 hF
      have h2_ := h2
      try simp at h2_
      try simp [h1, h1_, h2, h2_]
      repeat' apply And.intro
      any_goals (first | exact hG96 _ (by kernel_rfl) | refine hR96 _ _ _ ?_ | omega | (unfold maxLen; omega) | (simp [h1, h1_, h2, h2_]; done) | (simp [h1, h1_, h2, h2_]; omega))
      refine AW.wk [(0, AV.lst false false (List.map (AV.int .i64) v0)), (1, AV.int .i64 v1), (13, AV.bool true)] [] 0 (by simp [h1, h1_, h2, h2_]) (by simp [h1, h1_, h2, h2_]) (by simp) ?_
      refine AW.condT (by decide) (by simp [h1, h1_, h2, h2_]) ?_
      refine AW.seqR mixed [] [none, none] (by kernel_rfl) fun G97 R97 hG97 hR97 => ?_
      try simp [h1, h1_, h2, h2_]
      repeat' apply And.intro
      any_goals (first | exact hG97 _ (by kernel_rfl) | refine hR97 _ _ _ ?_ | omega | (unfold maxLen; omega) | (simp [h1, h1_, h2, h2_]; done) | (simp [h1, h1_, h2, h2_]; omega))
      refine AW.wk [(4, AV.int .i64 0), (5, AV.int .i64 2)] [] 0 (by simp [h1, h1_, h2, h2_]) (by simp [h1, h1_, h2, h2_]) (by simp) ?_
      simp only [Option.some.injEq, Prod.mk.injEq] at hF
      obtain ⟨e0, e1⟩ := hF
      subst e0 e1
      refine AW.ret (hQ _ _ _ ?_ (matchO_0 ?_)).1
      · simp [Try.f38, h1, h1_, h2, h2_]
      · simp [h1, h1_, h2, h2_]
    · replace hF := ite_f h2 hF
      have h2_ := h2
      try simp at h2_
      by_cases h3 : 2147483648 < v1
      · replace hF := ite_t h3 hF
        have h3_ := h3
        try simp at h3_
        try simp [h1, h1_, h2, h2_, h3, h3_]
        repeat' apply And.intro
        any_goals (first | exact hG96 _ (by kernel_rfl) | refine hR96 _ _ _ ?_ | omega | (unfold maxLen; omega) | (simp [h1, h1_, h2, h2_, h3, h3_]; done) | (simp [h1, h1_, h2, h2_, h3, h3_]; omega))
        refine AW.wk [(0, AV.lst false false (List.map (AV.int .i64) v0)), (1, AV.int .i64 v1), (13, AV.bool true)] [] 0 (by simp [h1, h1_, h2, h2_, h3, h3_]) (by simp [h1, h1_, h2, h2_, h3, h3_]) (by simp) ?_
        refine AW.condT (by decide) (by simp [h1, h1_, h2, h2_, h3, h3_]) ?_
        refine AW.seqR mixed [] [none, none] (by kernel_rfl) fun G98 R98 hG98 hR98 => ?_
        try simp [h1, h1_, h2, h2_, h3, h3_]
        repeat' apply And.intro
        any_goals (first | exact hG98 _ (by kernel_rfl) | refine hR98 _ _ _ ?_ | omega | (unfold maxLen; omega) | (simp [h1, h1_, h2, h2_, h3, h3_]; done) | (simp [h1, h1_, h2, h2_, h3, h3_]; omega))
        refine AW.wk [(4, AV.int .i64 0), (5, AV.int .i64 2)] [] 0 (by simp [h1, h1_, h2, h2_, h3, h3_]) (by simp [h1, h1_, h2, h2_, h3, h3_]) (by simp) ?_
        simp only [Option.some.injEq, Prod.mk.injEq] at hF
        obtain ⟨e0, e1⟩ := hF
        subst e0 e1
        refine AW.ret (hQ _ _ _ ?_ (matchO_0 ?_)).1
        · simp [Try.f38, h1, h1_, h2, h2_, h3, h3_]
        · simp [h1, h1_, h2, h2_, h3, h3_]
      · replace hF := ite_f h3 hF
        have h3_ := h3
        try simp at h3_
        try simp [h1, h1_, h2, h2_, h3, h3_]
        repeat' apply And.intro
        try any_goals (first | omega | (unfold maxLen; omega) | (simp [h1, h1_, h2, h2_, h3, h3_]; done))
        obtain ⟨v4, h4, hF⟩ := bnd1_elim hF
        refine aCall_l (w_slices_ContainsFunc_int_int_Mix_1 k _ _ h4) (by simp) [] [] [] rfl (.cons (.same (by simp [h1, h1_, h2, h2_, h3, h3_])) (.cons (.same (by simp [h1, h1_, h2, h2_, h3, h3_])) .nil)) (by simp [h1, h1_, h2, h2_, h3, h3_]) (by decide) (by simp) (by simp) (.inl rfl) (by simp) (by simp) ?_
        try simp [h1, h1_, h2, h2_, h3, h3_]
        repeat' apply And.intro
        any_goals (first | exact hG96 _ (by kernel_rfl) | refine hR96 _ _ _ ?_ | omega | (unfold maxLen; omega) | (simp [h1, h1_, h2, h2_, h3, h3_]; done) | (simp [h1, h1_, h2, h2_, h3, h3_]; omega))
        refine AW.wk [(0, AV.lst false false (List.map (AV.int .i64) v0)), (1, AV.int .i64 v1), (13, AV.bool v4)] [] 0 (by simp [h1, h1_, h2, h2_, h3, h3_]) (by simp [h1, h1_, h2, h2_, h3, h3_]) (by simp) ?_
        by_cases h5 : v4 = true
        · replace hF := ite_t h5 hF
          have h5_ := h5
          try simp at h5_
          refine AW.condT (by decide) (by first | (simp [h1, h1_, h2, h2_, h3, h3_, h5, h5_]; done) | (simp [h1, h1_, h2, h2_, h3, h3_, h5, h5_]; omega)) ?_
          refine AW.seqR mixed [] [none, none] (by kernel_rfl) fun G99 R99 hG99 hR99 => ?_
          try simp [h1, h1_, h2, h2_, h3, h3_, h5, h5_]
          repeat' apply And.intro
          any_goals (first | exact hG99 _ (by kernel_rfl) | refine hR99 _ _ _ ?_ | omega | (unfold maxLen; omega) | (simp [h1, h1_, h2, h2_, h3, h3_, h5, h5_]; done) | (simp [h1, h1_, h2, h2_, h3, h3_, h5, h5_]; omega))
          refine AW.wk [(4, AV.int .i64 0), (5, AV.int .i64 2)] [] 0 (by simp [h1, h1_, h2, h2_, h3, h3_, h5, h5_]) (by simp [h1, h1_, h2, h2_, h3, h3_, h5, h5_]) (by simp) ?_
          simp only [Option.some.injEq, Prod.mk.injEq] at hF
          obtain ⟨e0, e1⟩ := hF
          subst e0 e1
          refine AW.ret (hQ _ _ _ ?_ (matchO_0 ?_)).1
          · simp [Try.f38, h1, h1_, h2, h2_, h3, h3_, h5, h5_]
          · simp [h1, h1_, h2, h2_, h3, h3_, h5, h5_]
        · replace hF := ite_f h5 hF
          have h5_ := h5
          try simp at h5_
          refine AW.condF (by decide) (by first | (simp [h1, h1_, h2, h2_, h3, h3_, h5, h5_]; done) | (simp [h1, h1_, h2, h2_, h3, h3_, h5, h5_]; omega)) ?_
          refine AW.skip ?_
          refine hK93 _ _ _ ?_
          refine AW.seqR mixed [] [none] (by kernel_rfl) fun G100 R100 hG100 hR100 => ?_
          try simp [h1, h1_, h2, h2_, h3, h3_, h5, h5_]
          repeat' apply And.intro
          any_goals (first | exact hG100 _ (by kernel_rfl) | refine hR100 _ _ _ ?_ | omega | (unfold maxLen; omega) | (simp [h1, h1_, h2, h2_, h3, h3_, h5, h5_]; done) | (simp [h1, h1_, h2, h2_, h3, h3_, h5, h5_]; omega))
          refine AW.wk [(0, AV.lst false false (List.map (AV.int .i64) v0)), (1, AV.int .i64 v1), (6, AV.int .i64 0)] [] 0 (by simp [h1, h1_, h2, h2_, h3, h3_, h5, h5_]) (by simp [h1, h1_, h2, h2_, h3, h3_, h5, h5_]) (by simp) ?_
          refine AW.seq fun K135 hK135 => ?_
          refine AW.seqR mixed [] [none, none, none] (by kernel_rfl) fun G136 R136 hG136 hR136 => ?_
          try simp [h1, h1_, h2, h2_, h3, h3_, h5, h5_]
          repeat' apply And.intro
          any_goals (first | exact hG136 _ (by kernel_rfl) | refine hR136 _ _ _ ?_ | omega | (unfold maxLen; omega) | (simp [h1, h1_, h2, h2_, h3, h3_, h5, h5_]; done) | (simp [h1, h1_, h2, h2_, h3, h3_, h5, h5_]; omega))
          refine AW.wk [(1, AV.int .i64 v1), (6, AV.int .i64 0), (24, AV.lst false false (List.map (AV.int .i64) v0)), (25, AV.int .i64 (v0.length : Int)), (26, AV.int .i64 0)] [] 0 (by simp [h1, h1_, h2, h2_, h3, h3_, h5, h5_]) (by simp [h1, h1_, h2, h2_, h3, h3_, h5, h5_]) (by simp) ?_
          refine AW.block ?_
          refine AW.loopF (α := (Int × Int)) (fun n (v5, v6) => beacon_Mix.L1 k v0 v1 n v5 v6 = some (v2, v3)) (fun (v5, v6) => [(1, AV.int .i64 v1), (6, AV.int .i64 v5), (24, AV.lst false false (List.map (AV.int .i64) v0)), (25, AV.int .i64 (v0.length : Int)), (26, AV.int .i64 v6)]) (fun (v5, v6) => []) 0 k ((0, 0)) hF (by simp [h1, h1_, h2, h2_, h3, h3_, h5, h5_]) (by simp [h1, h1_, h2, h2_, h3, h3_, h5, h5_]) (by simp) ?_
          rintro (_|n1) ⟨v5, v6⟩ hF K161 hK161
          · try dsimp only at hF
            rw [beacon_Mix.L1] at hF; cases hF
          try dsimp only at hF
          rw [beacon_Mix.L1] at hF
          refine AW.seqR mixed [] [none] (by kernel_rfl) fun G162 R162 hG162 hR162 => ?_
          try simp [h1, h1_, h2, h2_, h3, h3_, h5, h5_]
          repeat' apply And.intro
          any_goals (first | exact hG162 _ (by kernel_rfl) | refine hR162 _ _ _ ?_ | omega | (unfold maxLen; omega) | (simp [h1, h1_, h2, h2_, h3, h3_, h5, h5_]; done) | (simp [h1, h1_, h2, h2_, h3, h3_, h5, h5_]; omega))
          refine AW.wk [(1, AV.int .i64 v1), (6, AV.int .i64 v5), (24, AV.lst false false (List.map (AV.int .i64) v0)), (25, AV.int .i64 (v0.length : Int)), (26, AV.int .i64 v6), (27, AV.bool (decide (v6 < (v0.length : Int))))] [] 0 (by simp [h1, h1_, h2, h2_, h3, h3_, h5, h5_]) (by simp [h1, h1_, h2, h2_, h3, h3_, h5, h5_]) (by simp) ?_
          refine AW.seq fun K163 hK163 => ?_
          by_cases h6 : v6 < (v0.length : Int)
          · replace hF := ite_t h6 hF
            have h6_ := h6
            try simp at h6_
            refine AW.condT (by decide) (by first | (simp [h1, h1_, h2, h2_, h3, h3_, h5, h5_, h6, h6_]; done) | (simp [h1, h1_, h2, h2_, h3, h3_, h5, h5_, h6, h6_]; omega)) ?_
            refine AW.skip ?_
            refine hK163 _ _ _ ?_
            refine AW.seq fun K166 hK166 => ?_
            refine AW.block ?_
            refine AW.seqR mixed [] [none, none, none] (by kernel_rfl) fun G167 R167 hG167 hR167 => ?_
            obtain ⟨v7, h7, h8, h9, hF⟩ := idx_elim hF
            have h9_ := get_of h9
            try simp at h9_
            have h8_ := h8
            try simp at h8_
            try simp [h1, h1_, h2, h2_, h3, h3_, h5, h5_, h6, h6_, h7, h8, h9, h9_, h8_]
            repeat' apply And.intro
            any_goals (first | exact hG167 _ (by kernel_rfl) | refine hR167 _ _ _ ?_ | omega | (unfold maxLen; omega) | (simp [h1, h1_, h2, h2_, h3, h3_, h5, h5_, h6, h6_, h7, h8, h9, h9_, h8_]; done) | (simp [h1, h1_, h2, h2_, h3, h3_, h5, h5_, h6, h6_, h7, h8, h9, h9_, h8_]; omega))
            refine AW.wk [(1, AV.int .i64 v1), (6, AV.int .i64 v5), (8, AV.int .i64 v7), (24, AV.lst false false (List.map (AV.int .i64) v0)), (25, AV.int .i64 (v0.length : Int)), (26, AV.int .i64 v6)] [] 0 (by simp [h1, h1_, h2, h2_, h3, h3_, h5, h5_, h6, h6_, h7, h8, h9, h9_, h8_]) (by simp [h1, h1_, h2, h2_, h3, h3_, h5, h5_, h6, h6_, h7, h8, h9, h9_, h8_]) (by simp) ?_
            refine AW.region mixed [] [none, none, none, none] (by kernel_rfl) fun G168 R168 hG168 hR168 => ?_
            try simp [h1, h1_, h2, h2_, h3, h3_, h5, h5_, h6, h6_, h7, h8, h9, h9_, h8_]
            repeat' apply And.intro
            any_goals (first | exact hG168 _ (by kernel_rfl) | refine hR168 _ _ _ ?_ | omega | (unfold maxLen; omega) | (simp [h1, h1_, h2, h2_, h3, h3_, h5, h5_, h6, h6_, h7, h8, h9, h9_, h8_]; done) | (simp [h1, h1_, h2, h2_, h3, h3_, h5, h5_, h6, h6_, h7, h8, h9, h9_, h8_]; omega))
            refine hK166 _ _ _ ?_
            refine AW.wk [(1, AV.int .i64 v1), (6, AV.int .i64 (IntKind.wrap .i64 (v5 + v7))), (24, AV.lst false false (List.map (AV.int .i64) v0)), (25, AV.int .i64 (v0.length : Int)), (26, AV.int .i64 v6)] [] 0 (by simp [h1, h1_, h2, h2_, h3, h3_, h5, h5_, h6, h6_, h7, h8, h9, h9_, h8_]) (by simp [h1, h1_, h2, h2_, h3, h3_, h5, h5_, h6, h6_, h7, h8, h9, h9_, h8_]) (by simp) ?_
            refine AW.region mixed [] [none, none] (by kernel_rfl) fun G169 R169 hG169 hR169 => ?_
            try simp [h1, h1_, h2, h2_, h3, h3_, h5, h5_, h6, h6_, h7, h8, h9, h9_, h8_]
            repeat' apply And.intro
            any_goals (first | exact hG169 _ (by kernel_rfl) | refine hR169 _ _ _ ?_ | omega | (unfold maxLen; omega) | (simp [h1, h1_, h2, h2_, h3, h3_, h5, h5_, h6, h6_, h7, h8, h9, h9_, h8_]; done) | (simp [h1, h1_, h2, h2_, h3, h3_, h5, h5_, h6, h6_, h7, h8, h9, h9_, h8_]; omega))
            refine hK161 _ _ _ ?_
            refine Can.weak [(1, AV.int .i64 v1), (6, AV.int .i64 (IntKind.wrap .i64 (v5 + v7))), (24, AV.lst false false (List.map (AV.int .i64) v0)), (25, AV.int .i64 (v0.length : Int)), (26, AV.int .i64 (IntKind.wrap .i64 (v6 + 1)))] [] 0 (by simp [h1, h1_, h2, h2_, h3, h3_, h5, h5_, h6, h6_, h7, h8, h9, h9_, h8_]) (by simp [h1, h1_, h2, h2_, h3, h3_, h5, h5_, h6, h6_, h7, h8, h9, h9_, h8_]) (by simp) ?_
            exact Can.next (k' := n1) ((IntKind.wrap .i64 (v5 + v7), IntKind.wrap .i64 (v6 + 1))) (by omega) hF (by simp [h1, h1_, h2, h2_, h3, h3_, h5, h5_, h6, h6_, h7, h8, h9, h9_, h8_]) (by simp [h1, h1_, h2, h2_, h3, h3_, h5, h5_, h6, h6_, h7, h8, h9, h9_, h8_]) (by simp)
          · replace hF := ite_f h6 hF
            have h6_ := h6
            try simp at h6_
            refine AW.condF (by decide) (by first | (simp [h1, h1_, h2, h2_, h3, h3_, h5, h5_, h6, h6_]; done) | (simp [h1, h1_, h2, h2_, h3, h3_, h5, h5_, h6, h6_]; omega)) ?_
            refine AW.exit ?_
            try simp
            refine hK135 _ _ _ ?_
            refine AW.seqR mixed [] [none, none, none, none, none] (by kernel_rfl) fun G170 R170 hG170 hR170 => ?_
            obtain ⟨h10, hF⟩ := chk_elim hF
            have h10_ := h10
            try simp at h10_
            try simp [h1, h1_, h2, h2_, h3, h3_, h5, h5_, h6, h6_, h10, h10_]
            repeat' apply And.intro
            any_goals (first | exact hG170 _ (by kernel_rfl) | refine hR170 _ _ _ ?_ | omega | (unfold maxLen; omega) | (simp [h1, h1_, h2, h2_, h3, h3_, h5, h5_, h6, h6_, h10, h10_]; done) | (simp [h1, h1_, h2, h2_, h3, h3_, h5, h5_, h6, h6_, h10, h10_]; omega))
            refine AW.wk [(4, AV.int .i64 (Int.tmod v5 v1)), (5, AV.int .i64 0)] [] 0 (by simp [h1, h1_, h2, h2_, h3, h3_, h5, h5_, h6, h6_, h10, h10_]) (by simp [h1, h1_, h2, h2_, h3, h3_, h5, h5_, h6, h6_, h10, h10_]) (by simp) ?_
            simp only [Option.some.injEq, Prod.mk.injEq] at hF
            obtain ⟨e0, e1⟩ := hF
            subst e0 e1
            refine AW.ret (hQ _ _ _ ?_ (matchO_0 ?_)).1
            · simp [Try.f38, h1, h1_, h2, h2_, h3, h3_, h5, h5_, h6, h6_, h10, h10_]
            · simp [h1, h1_, h2, h2_, h3, h3_, h5, h5_, h6, h6_, h10, h10_]
set_option maxHeartbeats 4000000 in
theorem w_beacon_bytes (k : Nat) (v0 : (List Int)) (v1 : (List Int)) (v2 : (List Int)) (hF : beacon_bytes k v0 v1 = some v2) :
    FCall Try.prog 82 [AV.slc 0 0 1 v0.length false, AV.lst false false (List.map (AV.int .i64) v1)] [.cells (List.map (AV.int .u8) v0)] (AV.slc 1 0 1 v2.length false) [none, some (.cells (List.map (AV.int .u8) v2))] := by
  unfold beacon_bytes at hF
  refine FCall.enter Try.func82 rfl (by simp) (by decide) (by simp) (by simp) (by simp) (by simp) (by simp) ?_
  intro c0 w0 Q h0 hQ
  refine AW.wk [(0, AV.slc 0 0 1 v0.length false), (1, AV.lst false false (List.map (AV.int .i64) v1))] [(0, .cells (List.map (AV.int .u8) v0))] 1 (by simp) (by simp) (by simp) ?_
  refine AW.seqR mixed [] [none] (by kernel_rfl) fun G536 R536 hG536 hR536 => ?_
  try simp
  repeat' apply And.intro
  any_goals (first | exact hG536 _ (by kernel_rfl) | refine hR536 _ _ _ ?_ | omega | (unfold maxLen; omega) | (simp; done) | (simp; omega))
  refine AW.wk [(0, AV.slc 0 0 1 v0.length false), (1, AV.lst false false (List.map (AV.int .i64) v1))] [(0, .cells (List.map (AV.int .u8) v0))] 1 (by simp) (by simp) (by simp) ?_
  refine AW.seq fun K803 hK803 => ?_
  refine AW.seqR mixed [] [none, none, none] (by kernel_rfl) fun G804 R804 hG804 hR804 => ?_
  try simp
  repeat' apply And.intro
  any_goals (first | exact hG804 _ (by kernel_rfl) | refine hR804 _ _ _ ?_ | omega | (unfold maxLen; omega) | (simp; done) | (simp; omega))
  refine AW.wk [(0, AV.slc 0 0 1 v0.length false), (8, AV.lst false false (List.map (AV.int .i64) v1)), (9, AV.int .i64 (v1.length : Int)), (10, AV.int .i64 0)] [(0, .cells (List.map (AV.int .u8) v0))] 1 (by simp) (by simp) (by simp) ?_
  refine AW.block ?_
  refine AW.rnm (m := 1) h0 [(1, 0)] [(0, AV.slc 1 0 1 v0.length false), (8, AV.lst false false (List.map (AV.int .i64) v1)), (9, AV.int .i64 (v1.length : Int)), (10, AV.int .i64 0)] [(1, .cells (List.map (AV.int .u8) v0))] 2 (by decide) (by decide) (by decide) rfl (by simp) (by simp) ?_
  refine AW.loopF (α := (Int × (List Int))) (fun n (v3, v4) => beacon_bytes.L1 k v1 n v3 v4 = some v2) (fun (v3, v4) => [(0, AV.slc 1 0 1 v4.length false), (8, AV.lst false false (List.map (AV.int .i64) v1)), (9, AV.int .i64 (v1.length : Int)), (10, AV.int .i64 v3)]) (fun (v3, v4) => [(1, .cells (List.map (AV.int .u8) v4))]) 2 k ((0, v0)) hF (by simp) (by simp) (by simp) ?_
  rintro (_|n1) ⟨v3, v4⟩ hF K1003 hK1003
  · try dsimp only at hF
    rw [beacon_bytes.L1] at hF; cases hF
  try dsimp only at hF
  rw [beacon_bytes.L1] at hF
  refine AW.seqR mixed [] [none] (by kernel_rfl) fun G1004 R1004 hG1004 hR1004 => ?_
  try simp
  repeat' apply And.intro
  any_goals (first | exact hG1004 _ (by kernel_rfl) | refine hR1004 _ _ _ ?_ | omega | (unfold maxLen; omega) | (simp; done) | (simp; omega))
  refine AW.wk [(0, AV.slc 1 0 1 v4.length false), (8, AV.lst false false (List.map (AV.int .i64) v1)), (9, AV.int .i64 (v1.length : Int)), (10, AV.int .i64 v3), (11, AV.bool (decide (v3 < (v1.length : Int))))] [(1, .cells (List.map (AV.int .u8) v4))] 2 (by simp) (by simp) (by simp) ?_
  refine AW.seq fun K1005 hK1005 => ?_
  by_cases h1 : v3 < (v1.length : Int)
  · replace hF := ite_t h1 hF
    have h1_ := h1
    try simp at h1_
    refine AW.condT (by decide) (by first | (simp [h1, h1_]; done) | (simp [h1, h1_]; omega)) ?_
    refine AW.skip ?_
    refine hK1005 _ _ _ ?_
    refine AW.seq fun K1037 hK1037 => ?_
    refine AW.block ?_
    refine AW.seqR mixed [] [none, none, none] (by kernel_rfl) fun G1038 R1038 hG1038 hR1038 => ?_
    obtain ⟨v5, h2, h3, h4, hF⟩ := idx_elim hF
    have h4_ := get_of h4
    try simp at h4_
    have h3_ := h3
    try simp at h3_
    try simp [h1, h1_, h2, h3, h4, h4_, h3_]
    repeat' apply And.intro
    any_goals (first | exact hG1038 _ (by kernel_rfl) | refine hR1038 _ _ _ ?_ | omega | (unfold maxLen; omega) | (simp [h1, h1_, h2, h3, h4, h4_, h3_]; done) | (simp [h1, h1_, h2, h3, h4, h4_, h3_]; omega))
    refine AW.wk [(0, AV.slc 1 0 1 v4.length false), (6, AV.int .i64 v5), (8, AV.lst false false (List.map (AV.int .i64) v1)), (9, AV.int .i64 (v1.length : Int)), (10, AV.int .i64 v3)] [(1, .cells (List.map (AV.int .u8) v4))] 2 (by simp [h1, h1_, h2, h3, h4, h4_, h3_]) (by simp [h1, h1_, h2, h3, h4, h4_, h3_]) (by simp) ?_
    refine AW.seqR mixed [] [none] (by kernel_rfl) fun G1039 R1039 hG1039 hR1039 => ?_
    try simp [h1, h1_, h2, h3, h4, h4_, h3_]
    repeat' apply And.intro
    any_goals (first | exact hG1039 _ (by kernel_rfl) | refine hR1039 _ _ _ ?_ | omega | (unfold maxLen; omega) | (simp [h1, h1_, h2, h3, h4, h4_, h3_]; done) | (simp [h1, h1_, h2, h3, h4, h4_, h3_]; omega))
    refine AW.wk [(0, AV.slc 1 0 1 v4.length false), (6, AV.int .i64 v5), (7, AV.int .i64 56), (8, AV.lst false false (List.map (AV.int .i64) v1)), (9, AV.int .i64 (v1.length : Int)), (10, AV.int .i64 v3)] [(1, .cells (List.map (AV.int .u8) v4))] 2 (by simp [h1, h1_, h2, h3, h4, h4_, h3_]) (by simp [h1, h1_, h2, h3, h4, h4_, h3_]) (by simp) ?_
    refine AW.block ?_
    refine AW.loopF (α := (Int × (List Int))) (fun n (v6, v7) => beacon_bytes.L2 k v3 v5 (fun v3_ v4_ => beacon_bytes.L1 k v1 n1 v3_ v4_) n v6 v7 = some v2) (fun (v6, v7) => [(0, AV.slc 1 0 1 v7.length false), (6, AV.int .i64 v5), (7, AV.int .i64 v6), (8, AV.lst false false (List.map (AV.int .i64) v1)), (9, AV.int .i64 (v1.length : Int)), (10, AV.int .i64 v3)]) (fun (v6, v7) => [(1, .cells (List.map (AV.int .u8) v7))]) 2 k ((56, v4)) hF (by simp [h1, h1_, h2, h3, h4, h4_, h3_]) (by simp [h1, h1_, h2, h3, h4, h4_, h3_]) (by simp) ?_
    rintro (_|n2) ⟨v6, v7⟩ hF K1061 hK1061
    · try dsimp only at hF
      rw [beacon_bytes.L2] at hF; cases hF
    try dsimp only at hF
    rw [beacon_bytes.L2] at hF
    refine AW.seq fun K1063 hK1063 => ?_
    refine AW.seqR mixed [] [none, none] (by kernel_rfl) fun G1064 R1064 hG1064 hR1064 => ?_
    try simp [h1, h1_, h2, h3, h4, h4_, h3_]
    repeat' apply And.intro
    any_goals (first | exact hG1064 _ (by kernel_rfl) | refine hR1064 _ _ _ ?_ | omega | (unfold maxLen; omega) | (simp [h1, h1_, h2, h3, h4, h4_, h3_]; done) | (simp [h1, h1_, h2, h3, h4, h4_, h3_]; omega))
    refine AW.wk [(0, AV.slc 1 0 1 v7.length false), (6, AV.int .i64 v5), (7, AV.int .i64 v6), (8, AV.lst false false (List.map (AV.int .i64) v1)), (9, AV.int .i64 (v1.length : Int)), (10, AV.int .i64 v3), (15, AV.bool (decide (0 ≤ v6)))] [(1, .cells (List.map (AV.int .u8) v7))] 2 (by simp [h1, h1_, h2, h3, h4, h4_, h3_]) (by simp [h1, h1_, h2, h3, h4, h4_, h3_]) (by simp) ?_
    by_cases h5 : 0 ≤ v6
    · replace hF := ite_t h5 hF
      have h5_ := h5
      try simp at h5_
      refine AW.condT (by decide) (by first | (simp [h1, h1_, h2, h3, h4, h4_, h3_, h5, h5_]; done) | (simp [h1, h1_, h2, h3, h4, h4_, h3_, h5, h5_]; omega)) ?_
      refine AW.skip ?_
      refine hK1063 _ _ _ ?_
      refine AW.seq fun K1066 hK1066 => ?_
      refine AW.block ?_
      refine AW.region mixed [] [none, none, none, none, none, none, none, none, none] (by kernel_rfl) fun G1067 R1067 hG1067 hR1067 => ?_
      obtain ⟨h6, hF⟩ := chk_elim hF
      obtain ⟨h7, hF⟩ := chk_elim hF
      have h7_ := h7
      try simp at h7_
      try simp [h1, h1_, h2, h3, h4, h4_, h3_, h5, h5_, h6, h7]
      repeat' apply And.intro
      any_goals (first | exact hG1067 _ (by kernel_rfl) | refine hR1067 _ _ _ ?_ | omega | (unfold maxLen; omega) | (simp [h1, h1_, h2, h3, h4, h4_, h3_, h5, h5_, h6, h7]; done) | (simp [h1, h1_, h2, h3, h4, h4_, h3_, h5, h5_, h6, h7]; omega))
      refine hK1066 _ _ _ ?_
      refine AW.wk [(0, AV.slc 2 0 1 ((v7 ++ ([IntKind.wrap .u8 (Int.fdiv (IntKind.wrap .u64 v5) (2 ^ (min v6.toNat 64)))] : List Int)).length) false), (6, AV.int .i64 v5), (7, AV.int .i64 v6), (8, AV.lst false false (List.map (AV.int .i64) v1)), (9, AV.int .i64 (v1.length : Int)), (10, AV.int .i64 v3)] [(2, .cells (List.map (AV.int .u8) (v7 ++ ([IntKind.wrap .u8 (Int.fdiv (IntKind.wrap .u64 v5) (2 ^ (min v6.toNat 64)))] : List Int))))] 3 (by simp [h1, h1_, h2, h3, h4, h4_, h3_, h5, h5_, h6, h7] <;> omega) (by simp [h1, h1_, h2, h3, h4, h4_, h3_, h5, h5_, h6, h7]) (by simp) ?_
      refine AW.region mixed [] [none, none, none] (by kernel_rfl) fun G1068 R1068 hG1068 hR1068 => ?_
      try simp [h1, h1_, h2, h3, h4, h4_, h3_, h5, h5_, h6, h7]
      repeat' apply And.intro
      any_goals (first | exact hG1068 _ (by kernel_rfl) | refine hR1068 _ _ _ ?_ | omega | (unfold maxLen; omega) | (simp [h1, h1_, h2, h3, h4, h4_, h3_, h5, h5_, h6, h7]; done) | (simp [h1, h1_, h2, h3, h4, h4_, h3_, h5, h5_, h6, h7]; omega))
      refine hK1061 _ _ _ ?_
      refine Can.weak [(0, AV.slc 2 0 1 ((v7 ++ ([IntKind.wrap .u8 (Int.fdiv (IntKind.wrap .u64 v5) (2 ^ (min v6.toNat 64)))] : List Int)).length) false), (6, AV.int .i64 v5), (7, AV.int .i64 (IntKind.wrap .i64 (v6 - 8))), (8, AV.lst false false (List.map (AV.int .i64) v1)), (9, AV.int .i64 (v1.length : Int)), (10, AV.int .i64 v3)] [(2, .cells (List.map (AV.int .u8) (v7 ++ ([IntKind.wrap .u8 (Int.fdiv (IntKind.wrap .u64 v5) (2 ^ (min v6.toNat 64)))] : List Int))))] 3 (by simp [h1, h1_, h2, h3, h4, h4_, h3_, h5, h5_, h6, h7] <;> omega) (by simp [h1, h1_, h2, h3, h4, h4_, h3_, h5, h5_, h6, h7]) (by simp) ?_
      refine Can.ren (m := 1) h0 [(1, 2)] [(0, AV.slc 1 0 1 ((v7 ++ ([IntKind.wrap .u8 (Int.fdiv (IntKind.wrap .u64 v5) (2 ^ (min v6.toNat 64)))] : List Int)).length) false), (6, AV.int .i64 v5), (7, AV.int .i64 (IntKind.wrap .i64 (v6 - 8))), (8, AV.lst false false (List.map (AV.int .i64) v1)), (9, AV.int .i64 (v1.length : Int)), (10, AV.int .i64 v3)] [(1, .cells (List.map (AV.int .u8) (v7 ++ ([IntKind.wrap .u8 (Int.fdiv (IntKind.wrap .u64 v5) (2 ^ (min v6.toNat 64)))] : List Int))))] 2 (by decide) (by decide) (by decide) rfl (by simp [h1, h1_, h2, h3, h4, h4_, h3_, h5, h5_, h6, h7]) (by simp [h1, h1_, h2, h3, h4, h4_, h3_, h5, h5_, h6, h7]) ?_
      exact Can.next (k' := n2) ((IntKind.wrap .i64 (v6 - 8), v7 ++ ([IntKind.wrap .u8 (Int.fdiv (IntKind.wrap .u64 v5) (2 ^ (min v6.toNat 64)))] : List Int))) (by omega) hF (by simp [h1, h1_, h2, h3, h4, h4_, h3_, h5, h5_, h6, h7]) (by simp [h1, h1_, h2, h3, h4, h4_, h3_, h5, h5_, h6, h7]) (by simp)
    · replace hF := ite_f h5 hF
      have h5_ := h5
      try simp at h5_
      refine AW.condF (by decide) (by first | (simp [h1, h1_, h2, h3, h4, h4_, h3_, h5, h5_]; done) | (simp [h1, h1_, h2, h3, h4, h4_, h3_, h5, h5_]; omega)) ?_
      refine AW.exit ?_
      try simp
      refine hK1037 _ _ _ ?_
      refine AW.region mixed [] [none, none] (by kernel_rfl) fun G1069 R1069 hG1069 hR1069 => ?_
      try simp [h1, h1_, h2, h3, h4, h4_, h3_, h5, h5_]
      repeat' apply And.intro
      any_goals (first | exact hG1069 _ (by kernel_rfl) | refine hR1069 _ _ _ ?_ | omega | (unfold maxLen; omega) | (simp [h1, h1_, h2, h3, h4, h4_, h3_, h5, h5_]; done) | (simp [h1, h1_, h2, h3, h4, h4_, h3_, h5, h5_]; omega))
      refine hK1003 _ _ _ ?_
      refine Can.weak [(0, AV.slc 1 0 1 v7.length false), (8, AV.lst false false (List.map (AV.int .i64) v1)), (9, AV.int .i64 (v1.length : Int)), (10, AV.int .i64 (IntKind.wrap .i64 (v3 + 1)))] [(1, .cells (List.map (AV.int .u8) v7))] 2 (by simp [h1, h1_, h2, h3, h4, h4_, h3_, h5, h5_]) (by simp [h1, h1_, h2, h3, h4, h4_, h3_, h5, h5_]) (by simp) ?_
      exact Can.next (k' := n1) ((IntKind.wrap .i64 (v3 + 1), v7)) (by omega) hF (by simp [h1, h1_, h2, h3, h4, h4_, h3_, h5, h5_]) (by simp [h1, h1_, h2, h3, h4, h4_, h3_, h5, h5_]) (by simp)
  · replace hF := ite_f h1 hF
    have h1_ := h1
    try simp at h1_
    refine AW.condF (by decide) (by first | (simp [h1, h1_]; done) | (simp [h1, h1_]; omega)) ?_
    refine AW.exit ?_
    try simp
    refine hK803 _ _ _ ?_
    refine AW.seqR mixed [] [none, none] (by kernel_rfl) fun G1070 R1070 hG1070 hR1070 => ?_
    try simp [h1, h1_]
    repeat' apply And.intro
    any_goals (first | exact hG1070 _ (by kernel_rfl) | refine hR1070 _ _ _ ?_ | omega | (unfold maxLen; omega) | (simp [h1, h1_]; done) | (simp [h1, h1_]; omega))
    refine AW.wk [(4, AV.slc 1 0 1 v4.length false)] [(1, .cells (List.map (AV.int .u8) v4))] 2 (by simp [h1, h1_]) (by simp [h1, h1_]) (by simp) ?_
    simp only [Option.some.injEq] at hF
    subst hF
    refine AW.ret (hQ _ _ _ ?_ (matchO_0 ?_)).1
    · simp [Try.f82, h1, h1_]
    · simp [h1, h1_]
set_option maxHeartbeats 4000000 in
theorem w_beacon_list (k : Nat) (v0 : (List Int)) (v1 : (List Int)) (v2 : (List Int)) (hF : beacon_list k v0 v1 = some v2) :
    FCall Try.prog 81 [AV.slc 0 0 1 v0.length false, AV.lst false false (List.map (AV.int .i64) v1)] [.cells (List.map (AV.int .u8) v0)] (AV.slc 1 0 1 v2.length false) [none, some (.cells (List.map (AV.int .u8) v2))] := by
  unfold beacon_list at hF
  refine FCall.enter Try.func81 rfl (by simp) (by decide) (by simp) (by simp) (by simp) (by simp) (by simp) ?_
  intro c0 w0 Q h0 hQ
  refine AW.wk [(0, AV.slc 0 0 1 v0.length false), (1, AV.lst false false (List.map (AV.int .i64) v1))] [(0, .cells (List.map (AV.int .u8) v0))] 1 (by simp) (by simp) (by simp) ?_
  refine AW.seqR mixed [] [none] (by kernel_rfl) fun G3 R3 hG3 hR3 => ?_
  try simp
  repeat' apply And.intro
  any_goals (first | exact hG3 _ (by kernel_rfl) | refine hR3 _ _ _ ?_ | omega | (unfold maxLen; omega) | (simp; done) | (simp; omega))
  refine AW.wk [(0, AV.slc 0 0 1 v0.length false), (1, AV.lst false false (List.map (AV.int .i64) v1))] [(0, .cells (List.map (AV.int .u8) v0))] 1 (by simp) (by simp) (by simp) ?_
  refine AW.seqR mixed [] [none, none, none, none, none, none, none, none] (by kernel_rfl) fun G4 R4 hG4 hR4 => ?_
  try simp
  repeat' apply And.intro
  try any_goals (first | omega | (unfold maxLen; omega) | (simp; done))
  obtain ⟨v3, h1, hF⟩ := bnd1_elim hF
  refine aCall_l (w_beacon_bytes k _ _ _ h1) (by simp) [0] [] [0] rfl (.cons (.same (by simp)) (.cons (Coe.fl (by simp)) .nil)) (by simp) (by decide) (by simp) (by simp) (.inl rfl) (by simp) (by simp) ?_
  try simp
  repeat' apply And.intro
  try any_goals (first | omega | (unfold maxLen; omega) | (simp; done))
  obtain ⟨v4, h2, hF⟩ := bnd1_elim hF
  refine aCall_l (w_beacon_bytes k _ _ _ h2) (by simp) [1] [] [1] rfl (.cons (.same (by simp)) (.cons (.same (by simp)) .nil)) (by simp) (by decide) (by simp) (by simp) (.inl rfl) (by simp) (by simp) ?_
  try simp
  repeat' apply And.intro
  any_goals (first | exact hG4 _ (by kernel_rfl) | refine hR4 _ _ _ ?_ | omega | (unfold maxLen; omega) | (simp; done) | (simp; omega))
  refine AW.wk [(4, AV.slc 2 0 1 v4.length false)] [(2, .cells (List.map (AV.int .u8) v4))] 3 (by simp) (by simp) (by simp) ?_
  refine AW.rnm (m := 1) h0 [(1, 2)] [(4, AV.slc 1 0 1 v4.length false)] [(1, .cells (List.map (AV.int .u8) v4))] 2 (by decide) (by decide) (by decide) rfl (by simp) (by simp) ?_
  simp only [Option.some.injEq] at hF
  subst hF
  refine AW.ret (hQ _ _ _ ?_ (matchO_0 ?_)).1
  · simp [Try.f81]
  · simp
set_option maxHeartbeats 4000000 in
theorem w_beacon_bytes_v2 (k : Nat) (v0 : (List Int)) (v1 : (List Int)) (v2 : (List Int)) (hF : beacon_bytes_v2 k v0 v1 = some v2) :
    FCall Try.prog 82 [AV.lst false true (List.map (AV.int .u8) v0), AV.lst false false (List.map (AV.int .i64) v1)] [] (AV.lst false false (List.map (AV.int .u8) v2)) [] := by
  unfold beacon_bytes_v2 at hF
  refine FCall.enter Try.func82 rfl (by simp) (by decide) (by simp) (by simp) (by simp) (by simp) (by simp) ?_
  intro c0 w0 Q h0 hQ
  refine AW.wk [(0, AV.lst false true (List.map (AV.int .u8) v0)), (1, AV.lst false false (List.map (AV.int .i64) v1))] [] 0 (by simp) (by simp) (by simp) ?_
  refine AW.seqR mixed [] [none] (by kernel_rfl) fun G734 R734 hG734 hR734 => ?_
  try simp
  repeat' apply And.intro
  any_goals (first | exact hG734 _ (by kernel_rfl) | refine hR734 _ _ _ ?_ | omega | (unfold maxLen; omega) | (simp; done) | (simp; omega))
  refine AW.wk [(0, AV.lst false true (List.map (AV.int .u8) v0)), (1, AV.lst false false (List.map (AV.int .i64) v1))] [] 0 (by simp) (by simp) (by simp) ?_
  refine AW.midF (α := (List Int)) (fun v3 => beacon_bytes_v2.J1 k v3 = some v2) (fun v3 => [(0, AV.lst false false (List.map (AV.int .u8) v3))]) (fun v3 => []) 0 (fun K1101 hK1101 => ?_) ?_
  · refine AW.seqR mixed [] [none, none, none] (by kernel_rfl) fun G1102 R1102 hG1102 hR1102 => ?_
    try simp
    repeat' apply And.intro
    any_goals (first | exact hG1102 _ (by kernel_rfl) | refine hR1102 _ _ _ ?_ | omega | (unfold maxLen; omega) | (simp; done) | (simp; omega))
    refine AW.wk [(0, AV.lst false true (List.map (AV.int .u8) v0)), (8, AV.lst false false (List.map (AV.int .i64) v1)), (9, AV.int .i64 (v1.length : Int)), (10, AV.int .i64 0)] [] 0 (by simp) (by simp) (by simp) ?_
    refine AW.block ?_
    refine AW.loopF (α := Option (Int × (List Int))) (fun n o => match o with | none => beacon_bytes_v2.P4 k v0 v1 n = some v2 | some (v4, v5) => beacon_bytes_v2.L2 k v1 n v4 v5 = some v2) (fun o => match o with | none => [(0, AV.lst false true (List.map (AV.int .u8) v0)), (8, AV.lst false false (List.map (AV.int .i64) v1)), (9, AV.int .i64 (v1.length : Int)), (10, AV.int .i64 0)] | some (v4, v5) => [(0, AV.slc 0 0 1 v5.length false), (8, AV.lst false false (List.map (AV.int .i64) v1)), (9, AV.int .i64 (v1.length : Int)), (10, AV.int .i64 v4)]) (fun o => match o with | none => [] | some (v4, v5) => [(0, .grow (List.map (AV.int .u8) v5))]) 1 k none hF (by simp) (by simp) (by simp) ?_
    rintro (_|n2) (_|⟨v4, v5⟩) hF K1317 hK1317
    · try dsimp only at hF
      rw [beacon_bytes_v2.P4] at hF; cases hF
    · try dsimp only at hF
      rw [beacon_bytes_v2.L2] at hF; cases hF
    · try dsimp only at hF
      rw [beacon_bytes_v2.P4] at hF
      refine AW.seqR mixed [] [none] (by kernel_rfl) fun G1385 R1385 hG1385 hR1385 => ?_
      try simp
      repeat' apply And.intro
      any_goals (first | exact hG1385 _ (by kernel_rfl) | refine hR1385 _ _ _ ?_ | omega | (unfold maxLen; omega) | (simp; done) | (simp; omega))
      refine AW.wk [(0, AV.lst false true (List.map (AV.int .u8) v0)), (8, AV.lst false false (List.map (AV.int .i64) v1)), (9, AV.int .i64 (v1.length : Int)), (10, AV.int .i64 0), (11, AV.bool (decide (0 < (v1.length : Int))))] [] 1 (by simp) (by simp) (by simp) ?_
      refine AW.seq fun K1386 hK1386 => ?_
      by_cases h8 : 0 < (v1.length : Int)
      · replace hF := ite_t h8 hF
        have h8_ := h8
        try simp at h8_
        refine AW.condT (by decide) (by first | (simp [h8, h8_]; done) | (simp [h8, h8_]; omega)) ?_
        refine AW.skip ?_
        refine hK1386 _ _ _ ?_
        refine AW.seq fun K1426 hK1426 => ?_
        refine AW.block ?_
        refine AW.seqR mixed [] [none, none, none] (by kernel_rfl) fun G1427 R1427 hG1427 hR1427 => ?_
        obtain ⟨v9, h9, h10, h11, hF⟩ := idx_elim hF
        have h11_ := get_of h11
        try simp at h11_
        have h10_ := h10
        try simp at h10_
        have h11z := head_of h11
        try simp [h8, h8_, h9, h10, h11, h11_, h10_, h11z]
        repeat' apply And.intro
        any_goals (first | exact hG1427 _ (by kernel_rfl) | refine hR1427 _ _ _ ?_ | omega | (unfold maxLen; omega) | (simp [h8, h8_, h9, h10, h11, h11_, h10_, h11z]; done) | (simp [h8, h8_, h9, h10, h11, h11_, h10_, h11z]; omega))
        refine AW.wk [(0, AV.lst false true (List.map (AV.int .u8) v0)), (6, AV.int .i64 v9), (8, AV.lst false false (List.map (AV.int .i64) v1)), (9, AV.int .i64 (v1.length : Int)), (10, AV.int .i64 0)] [] 1 (by simp [h8, h8_, h9, h10, h11, h11_, h10_, h11z]) (by simp [h8, h8_, h9, h10, h11, h11_, h10_, h11z]) (by simp) ?_
        refine AW.seqR mixed [] [none] (by kernel_rfl) fun G1428 R1428 hG1428 hR1428 => ?_
        try simp [h8, h8_, h9, h10, h11, h11_, h10_, h11z]
        repeat' apply And.intro
        any_goals (first | exact hG1428 _ (by kernel_rfl) | refine hR1428 _ _ _ ?_ | omega | (unfold maxLen; omega) | (simp [h8, h8_, h9, h10, h11, h11_, h10_, h11z]; done) | (simp [h8, h8_, h9, h10, h11, h11_, h10_, h11z]; omega))
        refine AW.wk [(0, AV.lst false true (List.map (AV.int .u8) v0)), (6, AV.int .i64 v9), (7, AV.int .i64 56), (8, AV.lst false false (List.map (AV.int .i64) v1)), (9, AV.int .i64 (v1.length : Int)), (10, AV.int .i64 0)] [] 1 (by simp [h8, h8_, h9, h10, h11, h11_, h10_, h11z]) (by simp [h8, h8_, h9, h10, h11, h11_, h10_, h11z]) (by simp) ?_
        refine AW.block ?_
        refine AW.loopF (α := Option (Int × (List Int))) (fun n o => match o with | none => beacon_bytes_v2.P6 k v0 v9 (fun v4_ v5_ => beacon_bytes_v2.L2 k v1 n2 v4_ v5_) n = some v2 | some (v10, v11) => beacon_bytes_v2.L5 k v9 (fun v4_ v5_ => beacon_bytes_v2.L2 k v1 n2 v4_ v5_) n v10 v11 = some v2) (fun o => match o with | none => [(0, AV.lst false true (List.map (AV.int .u8) v0)), (6, AV.int .i64 v9), (7, AV.int .i64 56), (8, AV.lst false false (List.map (AV.int .i64) v1)), (9, AV.int .i64 (v1.length : Int)), (10, AV.int .i64 0)] | some (v10, v11) => [(0, AV.slc 0 0 1 v11.length false), (6, AV.int .i64 v9), (7, AV.int .i64 v10), (8, AV.lst false false (List.map (AV.int .i64) v1)), (9, AV.int .i64 (v1.length : Int)), (10, AV.int .i64 0)]) (fun o => match o with | none => [] | some (v10, v11) => [(0, .grow (List.map (AV.int .u8) v11))]) 1 k none hF (by simp [h8, h8_, h9, h10, h11, h11_, h10_, h11z]) (by simp [h8, h8_, h9, h10, h11, h11_, h10_, h11z]) (by simp) ?_
        rintro (_|n5) (_|⟨v10, v11⟩) hF K1450 hK1450
        · try dsimp only at hF
          rw [beacon_bytes_v2.P6] at hF; cases hF
        · try dsimp only at hF
          rw [beacon_bytes_v2.L5] at hF; cases hF
        · try dsimp only at hF
          rw [beacon_bytes_v2.P6] at hF
          refine AW.seq fun K1461 hK1461 => ?_
          refine AW.seqR mixed [] [none, none] (by kernel_rfl) fun G1462 R1462 hG1462 hR1462 => ?_
          try simp [h8, h8_, h9, h10, h11, h11_, h10_, h11z]
          repeat' apply And.intro
          any_goals (first | exact hG1462 _ (by kernel_rfl) | refine hR1462 _ _ _ ?_ | omega | (unfold maxLen; omega) | (simp [h8, h8_, h9, h10, h11, h11_, h10_, h11z]; done) | (simp [h8, h8_, h9, h10, h11, h11_, h10_, h11z]; omega))
          refine AW.wk [(0, AV.lst false true (List.map (AV.int .u8) v0)), (6, AV.int .i64 v9), (7, AV.int .i64 56), (8, AV.lst false false (List.map (AV.int .i64) v1)), (9, AV.int .i64 (v1.length : Int)), (10, AV.int .i64 0), (15, AV.bool true)] [] 1 (by simp [h8, h8_, h9, h10, h11, h11_, h10_, h11z]) (by simp [h8, h8_, h9, h10, h11, h11_, h10_, h11z]) (by simp) ?_
          refine AW.condT (by decide) (by simp [h8, h8_, h9, h10, h11, h11_, h10_, h11z]) ?_
          refine AW.skip ?_
          refine hK1461 _ _ _ ?_
          refine AW.seq fun K1464 hK1464 => ?_
          refine AW.block ?_
          refine AW.region mixed [25, 1000025] [none, none, none, none, none, none, none, none, none] (by kernel_rfl) fun G1465 R1465 hG1465 hR1465 => ?_
          obtain ⟨h15, hF⟩ := chk_elim hF
          have h15_ := h15
          try simp at h15_
          try simp [h8, h8_, h9, h10, h11, h11_, h10_, h11z, h15]
          repeat' apply And.intro
          any_goals (first | exact hG1465 _ (by kernel_rfl) | refine hR1465 _ _ _ ?_ | omega | (unfold maxLen; omega) | (simp [h8, h8_, h9, h10, h11, h11_, h10_, h11z, h15]; done) | (simp [h8, h8_, h9, h10, h11, h11_, h10_, h11z, h15]; omega))
          refine hK1464 _ _ _ ?_
          refine AW.wk [(0, AV.slc 1 0 1 ((v0 ++ ([IntKind.wrap .u8 (Int.fdiv (IntKind.wrap .u64 v9) (2 ^ (56)))] : List Int)).length) false), (6, AV.int .i64 v9), (7, AV.int .i64 56), (8, AV.lst false false (List.map (AV.int .i64) v1)), (9, AV.int .i64 (v1.length : Int)), (10, AV.int .i64 0)] [(1, .grow (List.map (AV.int .u8) (v0 ++ ([IntKind.wrap .u8 (Int.fdiv (IntKind.wrap .u64 v9) (2 ^ (56)))] : List Int))))] 2 (by simp [h8, h8_, h9, h10, h11, h11_, h10_, h11z, h15] <;> omega) (by simp [h8, h8_, h9, h10, h11, h11_, h10_, h11z, h15]) (by simp) ?_
          refine AW.region mixed [] [none, none, none] (by kernel_rfl) fun G1466 R1466 hG1466 hR1466 => ?_
          try simp [h8, h8_, h9, h10, h11, h11_, h10_, h11z, h15]
          repeat' apply And.intro
          any_goals (first | exact hG1466 _ (by kernel_rfl) | refine hR1466 _ _ _ ?_ | omega | (unfold maxLen; omega) | (simp [h8, h8_, h9, h10, h11, h11_, h10_, h11z, h15]; done) | (simp [h8, h8_, h9, h10, h11, h11_, h10_, h11z, h15]; omega))
          refine hK1450 _ _ _ ?_
          refine Can.weak [(0, AV.slc 1 0 1 ((v0 ++ ([IntKind.wrap .u8 (Int.fdiv (IntKind.wrap .u64 v9) (2 ^ (56)))] : List Int)).length) false), (6, AV.int .i64 v9), (7, AV.int .i64 (IntKind.wrap .i64 (56 - 8))), (8, AV.lst false false (List.map (AV.int .i64) v1)), (9, AV.int .i64 (v1.length : Int)), (10, AV.int .i64 0)] [(1, .grow (List.map (AV.int .u8) (v0 ++ ([IntKind.wrap .u8 (Int.fdiv (IntKind.wrap .u64 v9) (2 ^ (56)))] : List Int))))] 2 (by simp [h8, h8_, h9, h10, h11, h11_, h10_, h11z, h15] <;> omega) (by simp [h8, h8_, h9, h10, h11, h11_, h10_, h11z, h15]) (by simp) ?_
          refine Can.ren (m := 0) h0 [(0, 1)] [(0, AV.slc 0 0 1 ((v0 ++ ([IntKind.wrap .u8 (Int.fdiv (IntKind.wrap .u64 v9) (2 ^ (56)))] : List Int)).length) false), (6, AV.int .i64 v9), (7, AV.int .i64 (IntKind.wrap .i64 (56 - 8))), (8, AV.lst false false (List.map (AV.int .i64) v1)), (9, AV.int .i64 (v1.length : Int)), (10, AV.int .i64 0)] [(0, .grow (List.map (AV.int .u8) (v0 ++ ([IntKind.wrap .u8 (Int.fdiv (IntKind.wrap .u64 v9) (2 ^ (56)))] : List Int))))] 1 (by decide) (by decide) (by decide) rfl (by simp [h8, h8_, h9, h10, h11, h11_, h10_, h11z, h15]) (by simp [h8, h8_, h9, h10, h11, h11_, h10_, h11z, h15]) ?_
          exact Can.next (k' := n5) (some (IntKind.wrap .i64 (56 - 8), v0 ++ ([IntKind.wrap .u8 (Int.fdiv (IntKind.wrap .u64 v9) (2 ^ (56)))] : List Int))) (by omega) hF (by simp [h8, h8_, h9, h10, h11, h11_, h10_, h11z, h15]) (by simp [h8, h8_, h9, h10, h11, h11_, h10_, h11z, h15]) (by simp)
        · try dsimp only at hF
          rw [beacon_bytes_v2.L5] at hF
          refine AW.seq fun K1452 hK1452 => ?_
          refine AW.seqR mixed [] [none, none] (by kernel_rfl) fun G1453 R1453 hG1453 hR1453 => ?_
          try simp [h8, h8_, h9, h10, h11, h11_, h10_, h11z]
          repeat' apply And.intro
          any_goals (first | exact hG1453 _ (by kernel_rfl) | refine hR1453 _ _ _ ?_ | omega | (unfold maxLen; omega) | (simp [h8, h8_, h9, h10, h11, h11_, h10_, h11z]; done) | (simp [h8, h8_, h9, h10, h11, h11_, h10_, h11z]; omega))
          refine AW.wk [(0, AV.slc 0 0 1 v11.length false), (6, AV.int .i64 v9), (7, AV.int .i64 v10), (8, AV.lst false false (List.map (AV.int .i64) v1)), (9, AV.int .i64 (v1.length : Int)), (10, AV.int .i64 0), (15, AV.bool (decide (0 ≤ v10)))] [(0, .grow (List.map (AV.int .u8) v11))] 1 (by simp [h8, h8_, h9, h10, h11, h11_, h10_, h11z]) (by simp [h8, h8_, h9, h10, h11, h11_, h10_, h11z]) (by simp) ?_
          by_cases h12 : 0 ≤ v10
          · replace hF := ite_t h12 hF
            have h12_ := h12
            try simp at h12_
            refine AW.condT (by decide) (by first | (simp [h8, h8_, h9, h10, h11, h11_, h10_, h11z, h12, h12_]; done) | (simp [h8, h8_, h9, h10, h11, h11_, h10_, h11z, h12, h12_]; omega)) ?_
            refine AW.skip ?_
            refine hK1452 _ _ _ ?_
            refine AW.seq fun K1455 hK1455 => ?_
            refine AW.block ?_
            refine AW.region mixed [] [none, none, none, none, none, none, none, none, none] (by kernel_rfl) fun G1456 R1456 hG1456 hR1456 => ?_
            obtain ⟨h13, hF⟩ := chk_elim hF
            obtain ⟨h14, hF⟩ := chk_elim hF
            have h14_ := h14
            try simp at h14_
            try simp [h8, h8_, h9, h10, h11, h11_, h10_, h11z, h12, h12_, h13, h14]
            repeat' apply And.intro
            any_goals (first | exact hG1456 _ (by kernel_rfl) | refine hR1456 _ _ _ ?_ | omega | (unfold maxLen; omega) | (simp [h8, h8_, h9, h10, h11, h11_, h10_, h11z, h12, h12_, h13, h14]; done) | (simp [h8, h8_, h9, h10, h11, h11_, h10_, h11z, h12, h12_, h13, h14]; omega))
            refine hK1455 _ _ _ ?_
            refine AW.wk [(0, AV.slc 1 0 1 ((v11 ++ ([IntKind.wrap .u8 (Int.fdiv (IntKind.wrap .u64 v9) (2 ^ (min v10.toNat 64)))] : List Int)).length) false), (6, AV.int .i64 v9), (7, AV.int .i64 v10), (8, AV.lst false false (List.map (AV.int .i64) v1)), (9, AV.int .i64 (v1.length : Int)), (10, AV.int .i64 0)] [(1, .grow (List.map (AV.int .u8) (v11 ++ ([IntKind.wrap .u8 (Int.fdiv (IntKind.wrap .u64 v9) (2 ^ (min v10.toNat 64)))] : List Int))))] 2 (by simp [h8, h8_, h9, h10, h11, h11_, h10_, h11z, h12, h12_, h13, h14] <;> omega) (by simp [h8, h8_, h9, h10, h11, h11_, h10_, h11z, h12, h12_, h13, h14]) (by simp) ?_
            refine AW.region mixed [] [none, none, none] (by kernel_rfl) fun G1457 R1457 hG1457 hR1457 => ?_
            try simp [h8, h8_, h9, h10, h11, h11_, h10_, h11z, h12, h12_, h13, h14]
            repeat' apply And.intro
            any_goals (first | exact hG1457 _ (by kernel_rfl) | refine hR1457 _ _ _ ?_ | omega | (unfold maxLen; omega) | (simp [h8, h8_, h9, h10, h11, h11_, h10_, h11z, h12, h12_, h13, h14]; done) | (simp [h8, h8_, h9, h10, h11, h11_, h10_, h11z, h12, h12_, h13, h14]; omega))
            refine hK1450 _ _ _ ?_
            refine Can.weak [(0, AV.slc 1 0 1 ((v11 ++ ([IntKind.wrap .u8 (Int.fdiv (IntKind.wrap .u64 v9) (2 ^ (min v10.toNat 64)))] : List Int)).length) false), (6, AV.int .i64 v9), (7, AV.int .i64 (IntKind.wrap .i64 (v10 - 8))), (8, AV.lst false false (List.map (AV.int .i64) v1)), (9, AV.int .i64 (v1.length : Int)), (10, AV.int .i64 0)] [(1, .grow (List.map (AV.int .u8) (v11 ++ ([IntKind.wrap .u8 (Int.fdiv (IntKind.wrap .u64 v9) (2 ^ (min v10.toNat 64)))] : List Int))))] 2 (by simp [h8, h8_, h9, h10, h11, h11_, h10_, h11z, h12, h12_, h13, h14] <;> omega) (by simp [h8, h8_, h9, h10, h11, h11_, h10_, h11z, h12, h12_, h13, h14]) (by simp) ?_
            refine Can.ren (m := 0) h0 [(0, 1)] [(0, AV.slc 0 0 1 ((v11 ++ ([IntKind.wrap .u8 (Int.fdiv (IntKind.wrap .u64 v9) (2 ^ (min v10.toNat 64)))] : List Int)).length) false), (6, AV.int .i64 v9), (7, AV.int .i64 (IntKind.wrap .i64 (v10 - 8))), (8, AV.lst false false (List.map (AV.int .i64) v1)), (9, AV.int .i64 (v1.length : Int)), (10, AV.int .i64 0)] [(0, .grow (List.map (AV.int .u8) (v11 ++ ([IntKind.wrap .u8 (Int.fdiv (IntKind.wrap .u64 v9) (2 ^ (min v10.toNat 64)))] : List Int))))] 1 (by decide) (by decide) (by decide) rfl (by simp [h8, h8_, h9, h10, h11, h11_, h10_, h11z, h12, h12_, h13, h14]) (by simp [h8, h8_, h9, h10, h11, h11_, h10_, h11z, h12, h12_, h13, h14]) ?_
            exact Can.next (k' := n5) (some ((IntKind.wrap .i64 (v10 - 8), v11 ++ ([IntKind.wrap .u8 (Int.fdiv (IntKind.wrap .u64 v9) (2 ^ (min v10.toNat 64)))] : List Int)))) (by omega) hF (by simp [h8, h8_, h9, h10, h11, h11_, h10_, h11z, h12, h12_, h13, h14]) (by simp [h8, h8_, h9, h10, h11, h11_, h10_, h11z, h12, h12_, h13, h14]) (by simp)
          · replace hF := ite_f h12 hF
            have h12_ := h12
            try simp at h12_
            refine AW.condF (by decide) (by first | (simp [h8, h8_, h9, h10, h11, h11_, h10_, h11z, h12, h12_]; done) | (simp [h8, h8_, h9, h10, h11, h11_, h10_, h11z, h12, h12_]; omega)) ?_
            refine AW.exit ?_
            try simp
            refine hK1426 _ _ _ ?_
            refine AW.region mixed [] [none, none] (by kernel_rfl) fun G1458 R1458 hG1458 hR1458 => ?_
            try simp [h8, h8_, h9, h10, h11, h11_, h10_, h11z, h12, h12_]
            repeat' apply And.intro
            any_goals (first | exact hG1458 _ (by kernel_rfl) | refine hR1458 _ _ _ ?_ | omega | (unfold maxLen; omega) | (simp [h8, h8_, h9, h10, h11, h11_, h10_, h11z, h12, h12_]; done) | (simp [h8, h8_, h9, h10, h11, h11_, h10_, h11z, h12, h12_]; omega))
            refine hK1317 _ _ _ ?_
            refine Can.weak [(0, AV.slc 0 0 1 v11.length false), (8, AV.lst false false (List.map (AV.int .i64) v1)), (9, AV.int .i64 (v1.length : Int)), (10, AV.int .i64 (IntKind.wrap .i64 (0 + 1)))] [(0, .grow (List.map (AV.int .u8) v11))] 1 (by simp [h8, h8_, h9, h10, h11, h11_, h10_, h11z, h12, h12_]) (by simp [h8, h8_, h9, h10, h11, h11_, h10_, h11z, h12, h12_]) (by simp) ?_
            exact Can.next (k' := n2) (some (IntKind.wrap .i64 (0 + 1), v11)) (by omega) hF (by simp [h8, h8_, h9, h10, h11, h11_, h10_, h11z, h12, h12_]) (by simp [h8, h8_, h9, h10, h11, h11_, h10_, h11z, h12, h12_]) (by simp)
      · replace hF := ite_f h8 hF
        have h8_ := h8
        try simp at h8_
        refine AW.condF (by decide) (by first | (simp [h8, h8_]; done) | (simp [h8, h8_]; omega)) ?_
        refine AW.exit ?_
        try simp
        refine hK1101 _ _ _ ?_
        refine Can.ren (m := 0) h0 [] [(0, AV.lst false true (List.map (AV.int .u8) v0))] [] 0 (by decide) (by decide) (by decide) rfl (by simp [h8, h8_]) (by simp [h8, h8_]) ?_
        refine Can.flg [(0, AV.lst false false (List.map (AV.int .u8) v0))] [] ⟨(.lst (by simp)), trivial⟩ trivial (by simp) ?_
        exact Can.join (v0) hF (by simp [h8, h8_]) (by simp [h8, h8_]) (by simp)
    · try dsimp only at hF
      rw [beacon_bytes_v2.L2] at hF
      refine AW.seqR mixed [] [none] (by kernel_rfl) fun G1318 R1318 hG1318 hR1318 => ?_
      try simp
      repeat' apply And.intro
      any_goals (first | exact hG1318 _ (by kernel_rfl) | refine hR1318 _ _ _ ?_ | omega | (unfold maxLen; omega) | (simp; done) | (simp; omega))
      refine AW.wk [(0, AV.slc 0 0 1 v5.length false), (8, AV.lst false false (List.map (AV.int .i64) v1)), (9, AV.int .i64 (v1.length : Int)), (10, AV.int .i64 v4), (11, AV.bool (decide (v4 < (v1.length : Int))))] [(0, .grow (List.map (AV.int .u8) v5))] 1 (by simp) (by simp) (by simp) ?_
      refine AW.seq fun K1319 hK1319 => ?_
      by_cases h1 : v4 < (v1.length : Int)
      · replace hF := ite_t h1 hF
        have h1_ := h1
        try simp at h1_
        refine AW.condT (by decide) (by first | (simp [h1, h1_]; done) | (simp [h1, h1_]; omega)) ?_
        refine AW.skip ?_
        refine hK1319 _ _ _ ?_
        refine AW.seq fun K1351 hK1351 => ?_
        refine AW.block ?_
        refine AW.seqR mixed [] [none, none, none] (by kernel_rfl) fun G1352 R1352 hG1352 hR1352 => ?_
        obtain ⟨v6, h2, h3, h4, hF⟩ := idx_elim hF
        have h4_ := get_of h4
        try simp at h4_
        have h3_ := h3
        try simp at h3_
        try simp [h1, h1_, h2, h3, h4, h4_, h3_]
        repeat' apply And.intro
        any_goals (first | exact hG1352 _ (by kernel_rfl) | refine hR1352 _ _ _ ?_ | omega | (unfold maxLen; omega) | (simp [h1, h1_, h2, h3, h4, h4_, h3_]; done) | (simp [h1, h1_, h2, h3, h4, h4_, h3_]; omega))
        refine AW.wk [(0, AV.slc 0 0 1 v5.length false), (6, AV.int .i64 v6), (8, AV.lst false false (List.map (AV.int .i64) v1)), (9, AV.int .i64 (v1.length : Int)), (10, AV.int .i64 v4)] [(0, .grow (List.map (AV.int .u8) v5))] 1 (by simp [h1, h1_, h2, h3, h4, h4_, h3_]) (by simp [h1, h1_, h2, h3, h4, h4_, h3_]) (by simp) ?_
        refine AW.seqR mixed [] [none] (by kernel_rfl) fun G1353 R1353 hG1353 hR1353 => ?_
        try simp [h1, h1_, h2, h3, h4, h4_, h3_]
        repeat' apply And.intro
        any_goals (first | exact hG1353 _ (by kernel_rfl) | refine hR1353 _ _ _ ?_ | omega | (unfold maxLen; omega) | (simp [h1, h1_, h2, h3, h4, h4_, h3_]; done) | (simp [h1, h1_, h2, h3, h4, h4_, h3_]; omega))
        refine AW.wk [(0, AV.slc 0 0 1 v5.length false), (6, AV.int .i64 v6), (7, AV.int .i64 56), (8, AV.lst false false (List.map (AV.int .i64) v1)), (9, AV.int .i64 (v1.length : Int)), (10, AV.int .i64 v4)] [(0, .grow (List.map (AV.int .u8) v5))] 1 (by simp [h1, h1_, h2, h3, h4, h4_, h3_]) (by simp [h1, h1_, h2, h3, h4, h4_, h3_]) (by simp) ?_
        refine AW.block ?_
        refine AW.loopF (α := (Int × (List Int))) (fun n (v7, v8) => beacon_bytes_v2.L3 k v4 v6 (fun v4_ v5_ => beacon_bytes_v2.L2 k v1 n2 v4_ v5_) n v7 v8 = some v2) (fun (v7, v8) => [(0, AV.slc 0 0 1 v8.length false), (6, AV.int .i64 v6), (7, AV.int .i64 v7), (8, AV.lst false false (List.map (AV.int .i64) v1)), (9, AV.int .i64 (v1.length : Int)), (10, AV.int .i64 v4)]) (fun (v7, v8) => [(0, .grow (List.map (AV.int .u8) v8))]) 1 k ((56, v5)) hF (by simp [h1, h1_, h2, h3, h4, h4_, h3_]) (by simp [h1, h1_, h2, h3, h4, h4_, h3_]) (by simp) ?_
        rintro (_|n3) ⟨v7, v8⟩ hF K1375 hK1375
        · try dsimp only at hF
          rw [beacon_bytes_v2.L3] at hF; cases hF
        try dsimp only at hF
        rw [beacon_bytes_v2.L3] at hF
        refine AW.seq fun K1377 hK1377 => ?_
        refine AW.seqR mixed [] [none, none] (by kernel_rfl) fun G1378 R1378 hG1378 hR1378 => ?_
        try simp [h1, h1_, h2, h3, h4, h4_, h3_]
        repeat' apply And.intro
        any_goals (first | exact hG1378 _ (by kernel_rfl) | refine hR1378 _ _ _ ?_ | omega | (unfold maxLen; omega) | (simp [h1, h1_, h2, h3, h4, h4_, h3_]; done) | (simp [h1, h1_, h2, h3, h4, h4_, h3_]; omega))
        refine AW.wk [(0, AV.slc 0 0 1 v8.length false), (6, AV.int .i64 v6), (7, AV.int .i64 v7), (8, AV.lst false false (List.map (AV.int .i64) v1)), (9, AV.int .i64 (v1.length : Int)), (10, AV.int .i64 v4), (15, AV.bool (decide (0 ≤ v7)))] [(0, .grow (List.map (AV.int .u8) v8))] 1 (by simp [h1, h1_, h2, h3, h4, h4_, h3_]) (by simp [h1, h1_, h2, h3, h4, h4_, h3_]) (by simp) ?_
        by_cases h5 : 0 ≤ v7
        · replace hF := ite_t h5 hF
          have h5_ := h5
          try simp at h5_
          refine AW.condT (by decide) (by first | (simp [h1, h1_, h2, h3, h4, h4_, h3_, h5, h5_]; done) | (simp [h1, h1_, h2, h3, h4, h4_, h3_, h5, h5_]; omega)) ?_
          refine AW.skip ?_
          refine hK1377 _ _ _ ?_
          refine AW.seq fun K1380 hK1380 => ?_
          refine AW.block ?_
          refine AW.region mixed [] [none, none, none, none, none, none, none, none, none] (by kernel_rfl) fun G1381 R1381 hG1381 hR1381 => ?_
          obtain ⟨h6, hF⟩ := chk_elim hF
          obtain ⟨h7, hF⟩ := chk_elim hF
          have h7_ := h7
          try simp at h7_
          try simp [h1, h1_, h2, h3, h4, h4_, h3_, h5, h5_, h6, h7]
          repeat' apply And.intro
          any_goals (first | exact hG1381 _ (by kernel_rfl) | refine hR1381 _ _ _ ?_ | omega | (unfold maxLen; omega) | (simp [h1, h1_, h2, h3, h4, h4_, h3_, h5, h5_, h6, h7]; done) | (simp [h1, h1_, h2, h3, h4, h4_, h3_, h5, h5_, h6, h7]; omega))
          refine hK1380 _ _ _ ?_
          refine AW.wk [(0, AV.slc 1 0 1 ((v8 ++ ([IntKind.wrap .u8 (Int.fdiv (IntKind.wrap .u64 v6) (2 ^ (min v7.toNat 64)))] : List Int)).length) false), (6, AV.int .i64 v6), (7, AV.int .i64 v7), (8, AV.lst false false (List.map (AV.int .i64) v1)), (9, AV.int .i64 (v1.length : Int)), (10, AV.int .i64 v4)] [(1, .grow (List.map (AV.int .u8) (v8 ++ ([IntKind.wrap .u8 (Int.fdiv (IntKind.wrap .u64 v6) (2 ^ (min v7.toNat 64)))] : List Int))))] 2 (by simp [h1, h1_, h2, h3, h4, h4_, h3_, h5, h5_, h6, h7] <;> omega) (by simp [h1, h1_, h2, h3, h4, h4_, h3_, h5, h5_, h6, h7]) (by simp) ?_
          refine AW.region mixed [] [none, none, none] (by kernel_rfl) fun G1382 R1382 hG1382 hR1382 => ?_
          try simp [h1, h1_, h2, h3, h4, h4_, h3_, h5, h5_, h6, h7]
          repeat' apply And.intro
          any_goals (first | exact hG1382 _ (by kernel_rfl) | refine hR1382 _ _ _ ?_ | omega | (unfold maxLen; omega) | (simp [h1, h1_, h2, h3, h4, h4_, h3_, h5, h5_, h6, h7]; done) | (simp [h1, h1_, h2, h3, h4, h4_, h3_, h5, h5_, h6, h7]; omega))
          refine hK1375 _ _ _ ?_
          refine Can.weak [(0, AV.slc 1 0 1 ((v8 ++ ([IntKind.wrap .u8 (Int.fdiv (IntKind.wrap .u64 v6) (2 ^ (min v7.toNat 64)))] : List Int)).length) false), (6, AV.int .i64 v6), (7, AV.int .i64 (IntKind.wrap .i64 (v7 - 8))), (8, AV.lst false false (List.map (AV.int .i64) v1)), (9, AV.int .i64 (v1.length : Int)), (10, AV.int .i64 v4)] [(1, .grow (List.map (AV.int .u8) (v8 ++ ([IntKind.wrap .u8 (Int.fdiv (IntKind.wrap .u64 v6) (2 ^ (min v7.toNat 64)))] : List Int))))] 2 (by simp [h1, h1_, h2, h3, h4, h4_, h3_, h5, h5_, h6, h7] <;> omega) (by simp [h1, h1_, h2, h3, h4, h4_, h3_, h5, h5_, h6, h7]) (by simp) ?_
          refine Can.ren (m := 0) h0 [(0, 1)] [(0, AV.slc 0 0 1 ((v8 ++ ([IntKind.wrap .u8 (Int.fdiv (IntKind.wrap .u64 v6) (2 ^ (min v7.toNat 64)))] : List Int)).length) false), (6, AV.int .i64 v6), (7, AV.int .i64 (IntKind.wrap .i64 (v7 - 8))), (8, AV.lst false false (List.map (AV.int .i64) v1)), (9, AV.int .i64 (v1.length : Int)), (10, AV.int .i64 v4)] [(0, .grow (List.map (AV.int .u8) (v8 ++ ([IntKind.wrap .u8 (Int.fdiv (IntKind.wrap .u64 v6) (2 ^ (min v7.toNat 64)))] : List Int))))] 1 (by decide) (by decide) (by decide) rfl (by simp [h1, h1_, h2, h3, h4, h4_, h3_, h5, h5_, h6, h7]) (by simp [h1, h1_, h2, h3, h4, h4_, h3_, h5, h5_, h6, h7]) ?_
          exact Can.next (k' := n3) ((IntKind.wrap .i64 (v7 - 8), v8 ++ ([IntKind.wrap .u8 (Int.fdiv (IntKind.wrap .u64 v6) (2 ^ (min v7.toNat 64)))] : List Int))) (by omega) hF (by simp [h1, h1_, h2, h3, h4, h4_, h3_, h5, h5_, h6, h7]) (by simp [h1, h1_, h2, h3, h4, h4_, h3_, h5, h5_, h6, h7]) (by simp)
        · replace hF := ite_f h5 hF
          have h5_ := h5
          try simp at h5_
          refine AW.condF (by decide) (by first | (simp [h1, h1_, h2, h3, h4, h4_, h3_, h5, h5_]; done) | (simp [h1, h1_, h2, h3, h4, h4_, h3_, h5, h5_]; omega)) ?_
          refine AW.exit ?_
          try simp
          refine hK1351 _ _ _ ?_
          refine AW.region mixed [] [none, none] (by kernel_rfl) fun G1383 R1383 hG1383 hR1383 => ?_
          try simp [h1, h1_, h2, h3, h4, h4_, h3_, h5, h5_]
          repeat' apply And.intro
          any_goals (first | exact hG1383 _ (by kernel_rfl) | refine hR1383 _ _ _ ?_ | omega | (unfold maxLen; omega) | (simp [h1, h1_, h2, h3, h4, h4_, h3_, h5, h5_]; done) | (simp [h1, h1_, h2, h3, h4, h4_, h3_, h5, h5_]; omega))
          refine hK1317 _ _ _ ?_
          refine Can.weak [(0, AV.slc 0 0 1 v8.length false), (8, AV.lst false false (List.map (AV.int .i64) v1)), (9, AV.int .i64 (v1.length : Int)), (10, AV.int .i64 (IntKind.wrap .i64 (v4 + 1)))] [(0, .grow (List.map (AV.int .u8) v8))] 1 (by simp [h1, h1_, h2, h3, h4, h4_, h3_, h5, h5_]) (by simp [h1, h1_, h2, h3, h4, h4_, h3_, h5, h5_]) (by simp) ?_
          exact Can.next (k' := n2) (some ((IntKind.wrap .i64 (v4 + 1), v8))) (by omega) hF (by simp [h1, h1_, h2, h3, h4, h4_, h3_, h5, h5_]) (by simp [h1, h1_, h2, h3, h4, h4_, h3_, h5, h5_]) (by simp)
      · replace hF := ite_f h1 hF
        have h1_ := h1
        try simp at h1_
        refine AW.condF (by decide) (by first | (simp [h1, h1_]; done) | (simp [h1, h1_]; omega)) ?_
        refine AW.exit ?_
        try simp
        refine hK1101 _ _ _ ?_
        refine Can.freeze 0 (o := .grow (List.map (AV.int .u8) v5)) (by simp [h1, h1_]) rfl [(0, AV.lst false false (List.map (AV.int .u8) v5))] [] ⟨(.l (by simp) (by simp) (by simp) (by simp)), trivial⟩ trivial ?_
        refine Can.ren (m := 0) h0 [] [(0, AV.lst false false (List.map (AV.int .u8) v5))] [] 0 (by decide) (by decide) (by decide) rfl (by simp [h1, h1_]) (by simp [h1, h1_]) ?_
        exact Can.join (v5) hF (by simp [h1, h1_]) (by simp [h1, h1_]) (by simp)
  · rintro v3 hF
    try dsimp only at hF
    unfold beacon_bytes_v2.J1 at hF
    refine AW.seqR mixed [] [none, none] (by kernel_rfl) fun G1100 R1100 hG1100 hR1100 => ?_
    try simp
    repeat' apply And.intro
    any_goals (first | exact hG1100 _ (by kernel_rfl) | refine hR1100 _ _ _ ?_ | omega | (unfold maxLen; omega) | (simp; done) | (simp; omega))
    refine AW.wk [(4, AV.lst false false (List.map (AV.int .u8) v3))] [] 0 (by simp) (by simp) (by simp) ?_
    simp only [Option.some.injEq] at hF
    subst hF
    refine AW.ret (hQ _ _ _ ?_ (matchO_0 ?_)).1
    · simp [Try.f82]
    · simp
end Go.TF
