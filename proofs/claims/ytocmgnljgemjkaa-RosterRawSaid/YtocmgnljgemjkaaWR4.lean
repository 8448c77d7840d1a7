/- Walks: the Go text computes the Lean functions (printed by a program of our own). -/
import Derived.Test.YtocmgnljgemjkaaPu
import Derived.Test.YtocmgnljgemjkaaAbsT
import Derived.Test.YtocmgnljgemjkaaWa0
import Derived.Test.YtocmgnljgemjkaaWR1
import Derived.Test.YtocmgnljgemjkaaWR2
import Derived.Test.YtocmgnljgemjkaaWR3
set_option linter.unusedVariables false
set_option linter.unusedSimpArgs false
set_option maxRecDepth 100000
namespace Go.TF
open Go Go.Abs Go.Proofs Go.Proofs.YtocmgnljgemjkaaT
set_option maxHeartbeats 4000000 in
theorem w_slices_Index_int_int (k : Nat) (v0 : (List Int)) (v1 : Int) (v2 : Int) (hF : slices_Index_int_int k v0 v1 = some v2) :
    FCall Try.prog 102 [AV.lst false false (List.map (AV.int .i64) v0), AV.int .i64 v1] [] (AV.int .i64 v2) [] := by
  unfold slices_Index_int_int at hF
  refine FCall.enter Try.func102 rfl (by simp) (by decide) (by simp) (by simp) (by simp) (by simp) (by simp) ?_
  intro c0 w0 Q h0 hQ
  refine AW.wk [(0, AV.lst false false (List.map (AV.int .i64) v0)), (1, AV.int .i64 v1)] [] 0 (by simp) (by simp) (by simp) ?_
  refine AW.seqR mixed [] [none] (by kernel_rfl) fun G68 R68 hG68 hR68 => ?_
  try simp
  repeat' apply And.intro
  any_goals (first | exact hG68 _ (by kernel_rfl) | refine hR68 _ _ _ ?_ | omega | (unfold maxLen; omega) | (simp; done) | (simp; omega))
  refine AW.wk [(0, AV.lst false false (List.map (AV.int .i64) v0)), (1, AV.int .i64 v1)] [] 0 (by simp) (by simp) (by simp) ?_
  refine AW.seq fun K101 hK101 => ?_
  refine AW.seqR mixed [] [none, none, none] (by kernel_rfl) fun G102 R102 hG102 hR102 => ?_
  try simp
  repeat' apply And.intro
  any_goals (first | exact hG102 _ (by kernel_rfl) | refine hR102 _ _ _ ?_ | omega | (unfold maxLen; omega) | (simp; done) | (simp; omega))
  refine AW.wk [(0, AV.lst false false (List.map (AV.int .i64) v0)), (1, AV.int .i64 v1), (7, AV.int .i64 (v0.length : Int)), (8, AV.int .i64 0)] [] 0 (by simp) (by simp) (by simp) ?_
  refine AW.block ?_
  refine AW.loopF (α := Int) (fun n v3 => slices_Index_int_int.L1 k v0 v1 n v3 = some v2) (fun v3 => [(0, AV.lst false false (List.map (AV.int .i64) v0)), (1, AV.int .i64 v1), (7, AV.int .i64 (v0.length : Int)), (8, AV.int .i64 v3)]) (fun v3 => []) 0 k (0) hF (by simp) (by simp) (by simp) ?_
  rintro (_|n1) v3 hF K123 hK123
  · try dsimp only at hF
    rw [slices_Index_int_int.L1] at hF; cases hF
  try dsimp only at hF
  rw [slices_Index_int_int.L1] at hF
  refine AW.seqR mixed [] [none] (by kernel_rfl) fun G124 R124 hG124 hR124 => ?_
  try simp
  repeat' apply And.intro
  any_goals (first | exact hG124 _ (by kernel_rfl) | refine hR124 _ _ _ ?_ | omega | (unfold maxLen; omega) | (simp; done) | (simp; omega))
  refine AW.wk [(0, AV.lst false false (List.map (AV.int .i64) v0)), (1, AV.int .i64 v1), (7, AV.int .i64 (v0.length : Int)), (8, AV.int .i64 v3), (9, AV.bool (decide (v3 < (v0.length : Int))))] [] 0 (by simp) (by simp) (by simp) ?_
  refine AW.seq fun K125 hK125 => ?_
  by_cases h1 : v3 < (v0.length : Int)
  · replace hF := ite_t h1 hF
    have h1_ := h1
    try simp at h1_
    refine AW.condT (by decide) (by first | (simp [h1, h1_]; done) | (simp [h1, h1_]; omega)) ?_
    refine AW.skip ?_
    refine hK125 _ _ _ ?_
    refine AW.seq fun K129 hK129 => ?_
    refine AW.block ?_
    refine AW.seqR mixed [] [none, none] (by kernel_rfl) fun G130 R130 hG130 hR130 => ?_
    try simp [h1, h1_]
    repeat' apply And.intro
    any_goals (first | exact hG130 _ (by kernel_rfl) | refine hR130 _ _ _ ?_ | omega | (unfold maxLen; omega) | (simp [h1, h1_]; done) | (simp [h1, h1_]; omega))
    refine AW.wk [(0, AV.lst false false (List.map (AV.int .i64) v0)), (1, AV.int .i64 v1), (5, AV.int .i64 v3), (7, AV.int .i64 (v0.length : Int)), (8, AV.int .i64 v3)] [] 0 (by simp [h1, h1_]) (by simp [h1, h1_]) (by simp) ?_
    refine AW.seqR mixed [] [none, none, none, none, none, none] (by kernel_rfl) fun G131 R131 hG131 hR131 => ?_
    obtain ⟨v4, h2, h3, h4, hF⟩ := idx_elim hF
    have h4_ := get_of h4
    try simp at h4_
    have h3_ := h3
    try simp at h3_
    try simp [h1, h1_, h2, h3, h4, h4_, h3_]
    repeat' apply And.intro
    any_goals (first | exact hG131 _ (by kernel_rfl) | refine hR131 _ _ _ ?_ | omega | (unfold maxLen; omega) | (simp [h1, h1_, h2, h3, h4, h4_, h3_]; done) | (simp [h1, h1_, h2, h3, h4, h4_, h3_]; omega))
    refine AW.wk [(0, AV.lst false false (List.map (AV.int .i64) v0)), (1, AV.int .i64 v1), (5, AV.int .i64 v3), (7, AV.int .i64 (v0.length : Int)), (8, AV.int .i64 v3), (16, AV.bool (v1 == v4))] [] 0 (by simp [h1, h1_, h2, h3, h4, h4_, h3_]) (by simp [h1, h1_, h2, h3, h4, h4_, h3_]) (by simp) ?_
    by_cases h5 : v1 = v4
    · replace hF := ite_t h5 hF
      have h5q : v1 = v4 := h5
      have h5_ := eqb_t h5q
      have h5__ := neb_f h5q
      refine AW.condT (by decide) (by first | (simp [h1, h1_, h2, h3, h4, h4_, h3_, h5_, h5__]; done) | (simp [h1, h1_, h2, h3, h4, h4_, h3_, h5_, h5__]; omega)) ?_
      refine AW.seqR mixed [] [none, none] (by kernel_rfl) fun G132 R132 hG132 hR132 => ?_
      try simp [h1, h1_, h2, h3, h4, h4_, h3_, h5_, h5__]
      repeat' apply And.intro
      any_goals (first | exact hG132 _ (by kernel_rfl) | refine hR132 _ _ _ ?_ | omega | (unfold maxLen; omega) | (simp [h1, h1_, h2, h3, h4, h4_, h3_, h5_, h5__]; done) | (simp [h1, h1_, h2, h3, h4, h4_, h3_, h5_, h5__]; omega))
      refine AW.wk [(4, AV.int .i64 v3)] [] 0 (by simp [h1, h1_, h2, h3, h4, h4_, h3_, h5_, h5__]) (by simp [h1, h1_, h2, h3, h4, h4_, h3_, h5_, h5__]) (by simp) ?_
      simp only [Option.some.injEq] at hF
      subst hF
      refine AW.ret (hQ _ _ _ ?_ (matchO_0 ?_)).1
      · simp [Try.f102, h1, h1_, h2, h3, h4, h4_, h3_, h5_, h5__]
      · simp [h1, h1_, h2, h3, h4, h4_, h3_, h5_, h5__]
    · replace hF := ite_f h5 hF
      have h5_ := eqb_f h5
      have h5__ := neb_t h5
      refine AW.condF (by decide) (by first | (simp [h1, h1_, h2, h3, h4, h4_, h3_, h5, h5_, h5__]; done) | (simp [h1, h1_, h2, h3, h4, h4_, h3_, h5, h5_, h5__]; omega)) ?_
      refine AW.skip ?_
      refine hK129 _ _ _ ?_
      refine AW.region mixed [] [none, none] (by kernel_rfl) fun G133 R133 hG133 hR133 => ?_
      try simp [h1, h1_, h2, h3, h4, h4_, h3_, h5, h5_, h5__]
      repeat' apply And.intro
      any_goals (first | exact hG133 _ (by kernel_rfl) | refine hR133 _ _ _ ?_ | omega | (unfold maxLen; omega) | (simp [h1, h1_, h2, h3, h4, h4_, h3_, h5, h5_, h5__]; done) | (simp [h1, h1_, h2, h3, h4, h4_, h3_, h5, h5_, h5__]; omega))
      refine hK123 _ _ _ ?_
      refine Can.weak [(0, AV.lst false false (List.map (AV.int .i64) v0)), (1, AV.int .i64 v1), (7, AV.int .i64 (v0.length : Int)), (8, AV.int .i64 (IntKind.wrap .i64 (v3 + 1)))] [] 0 (by simp [h1, h1_, h2, h3, h4, h4_, h3_, h5, h5_, h5__]) (by simp [h1, h1_, h2, h3, h4, h4_, h3_, h5, h5_, h5__]) (by simp) ?_
      exact Can.next (k' := n1) (IntKind.wrap .i64 (v3 + 1)) (by omega) hF (by simp [h1, h1_, h2, h3, h4, h4_, h3_, h5, h5_, h5__]) (by simp [h1, h1_, h2, h3, h4, h4_, h3_, h5, h5_, h5__]) (by simp)
  · replace hF := ite_f h1 hF
    have h1_ := h1
    try simp at h1_
    refine AW.condF (by decide) (by first | (simp [h1, h1_]; done) | (simp [h1, h1_]; omega)) ?_
    refine AW.exit ?_
    try simp
    refine hK101 _ _ _ ?_
    refine AW.seqR mixed [] [none] (by kernel_rfl) fun G134 R134 hG134 hR134 => ?_
    try simp [h1, h1_]
    repeat' apply And.intro
    any_goals (first | exact hG134 _ (by kernel_rfl) | refine hR134 _ _ _ ?_ | omega | (unfold maxLen; omega) | (simp [h1, h1_]; done) | (simp [h1, h1_]; omega))
    refine AW.wk [(4, AV.int .i64 (-1))] [] 0 (by simp [h1, h1_]) (by simp [h1, h1_]) (by simp) ?_
    simp only [Option.some.injEq] at hF
    subst hF
    refine AW.ret (hQ _ _ _ ?_ (matchO_0 ?_)).1
    · simp [Try.f102, h1, h1_]
    · simp [h1, h1_]
set_option maxHeartbeats 4000000 in
theorem w_slices_Contains_int_int (k : Nat) (v0 : (List Int)) (v1 : Int) (v2 : Bool) (hF : slices_Contains_int_int k v0 v1 = some v2) :
    FCall Try.prog 95 [AV.lst false false (List.map (AV.int .i64) v0), AV.int .i64 v1] [] (AV.bool v2) [] := by
  unfold slices_Contains_int_int at hF
  refine FCall.enter Try.func95 rfl (by simp) (by decide) (by simp) (by simp) (by simp) (by simp) (by simp) ?_
  intro c0 w0 Q h0 hQ
  refine AW.wk [(0, AV.lst false false (List.map (AV.int .i64) v0)), (1, AV.int .i64 v1)] [] 0 (by simp) (by simp) (by simp) ?_
  refine AW.seqR mixed [] [none] (by kernel_rfl) fun G3 R3 hG3 hR3 => ?_
  try simp
  repeat' apply And.intro
  any_goals (first | exact hG3 _ (by kernel_rfl) | refine hR3 _ _ _ ?_ | omega | (unfold maxLen; omega) | (simp; done) | (simp; omega))
  refine AW.wk [(0, AV.lst false false (List.map (AV.int .i64) v0)), (1, AV.int .i64 v1)] [] 0 (by simp) (by simp) (by simp) ?_
  refine AW.seqR mixed [] [none, none, none, none, none] (by kernel_rfl) fun G4 R4 hG4 hR4 => ?_
  try simp
  repeat' apply And.intro
  try any_goals (first | omega | (unfold maxLen; omega) | (simp; done))
  obtain ⟨v3, h1, hF⟩ := bnd1_elim hF
  refine aCall_l (w_slices_Index_int_int k _ _ _ h1) (by simp) [] [] [] rfl (.cons (.same (by simp)) (.cons (.same (by simp)) .nil)) (by simp) (by decide) (by simp) (by simp) (.inl rfl) (by simp) (by simp) ?_
  try simp
  repeat' apply And.intro
  any_goals (first | exact hG4 _ (by kernel_rfl) | refine hR4 _ _ _ ?_ | omega | (unfold maxLen; omega) | (simp; done) | (simp; omega))
  refine AW.wk [(4, AV.bool (decide (0 ≤ v3)))] [] 0 (by simp) (by simp) (by simp) ?_
  simp only [Option.some.injEq] at hF
  subst hF
  refine AW.ret (hQ _ _ _ ?_ (matchO_0 ?_)).1
  · simp [Try.f95]
  · simp
set_option maxHeartbeats 4000000 in
theorem w_roster_Has (k : Nat) (v0 : (List Int)) (v1 : Int) (v2 : Bool) (hF : roster_Has k v0 v1 = some v2) :
    FCall Try.prog 71 [AV.lst false false (List.map (AV.int .i64) v0), AV.int .i64 v1] [] (AV.bool v2) [] := by
  unfold roster_Has at hF
  refine FCall.enter Try.func71 rfl (by simp) (by decide) (by simp) (by simp) (by simp) (by simp) (by simp) ?_
  intro c0 w0 Q h0 hQ
  refine AW.wk [(0, AV.lst false false (List.map (AV.int .i64) v0)), (1, AV.int .i64 v1)] [] 0 (by simp) (by simp) (by simp) ?_
  refine AW.seqR mixed [] [none] (by kernel_rfl) fun G3 R3 hG3 hR3 => ?_
  try simp
  repeat' apply And.intro
  any_goals (first | exact hG3 _ (by kernel_rfl) | refine hR3 _ _ _ ?_ | omega | (unfold maxLen; omega) | (simp; done) | (simp; omega))
  refine AW.wk [(0, AV.lst false false (List.map (AV.int .i64) v0)), (1, AV.int .i64 v1)] [] 0 (by simp) (by simp) (by simp) ?_
  refine AW.seqR mixed [] [none, none, none, none] (by kernel_rfl) fun G4 R4 hG4 hR4 => ?_
  try simp
  repeat' apply And.intro
  try any_goals (first | omega | (unfold maxLen; omega) | (simp; done))
  obtain ⟨v3, h1, hF⟩ := bnd1_elim hF
  refine aCall_l (w_slices_Contains_int_int k _ _ _ h1) (by simp) [] [] [] rfl (.cons (.same (by simp)) (.cons (.same (by simp)) .nil)) (by simp) (by decide) (by simp) (by simp) (.inl rfl) (by simp) (by simp) ?_
  try simp
  repeat' apply And.intro
  any_goals (first | exact hG4 _ (by kernel_rfl) | refine hR4 _ _ _ ?_ | omega | (unfold maxLen; omega) | (simp; done) | (simp; omega))
  refine AW.wk [(4, AV.bool v3)] [] 0 (by simp) (by simp) (by simp) ?_
  simp only [Option.some.injEq] at hF
  subst hF
  refine AW.ret (hQ _ _ _ ?_ (matchO_0 ?_)).1
  · simp [Try.f71]
  · simp
set_option maxHeartbeats 4000000 in
theorem w_law24_RosterRaw (k : Nat) (v0 : (List Int)) (v1 : (List Int)) (v2 : Int) (v3 : Bool) (hF : law24_RosterRaw k v0 v1 v2 = some v3) :
    FCall Try.prog 16 [AV.lst false false (List.map (AV.int .i64) v0), AV.lst false false (List.map (AV.int .i64) v1), AV.int .i64 v2] [] (AV.bool v3) [] := by
  unfold law24_RosterRaw at hF
  refine FCall.enter Try.func16 rfl (by simp) (by decide) (by simp) (by simp) (by simp) (by simp) (by simp) ?_
  intro c0 w0 Q h0 hQ
  refine AW.wk [(0, AV.lst false false (List.map (AV.int .i64) v0)), (1, AV.lst false false (List.map (AV.int .i64) v1)), (2, AV.int .i64 v2)] [] 0 (by simp) (by simp) (by simp) ?_
  refine AW.seqR mixed [] [none] (by kernel_rfl) fun G333 R333 hG333 hR333 => ?_
  try simp
  repeat' apply And.intro
  any_goals (first | exact hG333 _ (by kernel_rfl) | refine hR333 _ _ _ ?_ | omega | (unfold maxLen; omega) | (simp; done) | (simp; omega))
  refine AW.wk [(0, AV.lst false false (List.map (AV.int .i64) v0)), (1, AV.lst false false (List.map (AV.int .i64) v1)), (2, AV.int .i64 v2)] [] 0 (by simp) (by simp) (by simp) ?_
  refine AW.seq fun K337 hK337 => ?_
  refine AW.seqR mixed [] [none, none, none, none, some (19, false), some (19, false), some (19, false), none] (by kernel_rfl) fun G338 R338 hG338 hR338 => ?_
  by_cases h1 : 200 < (v0.length : Int)
  · replace hF := ite_t h1 hF
    have h1_ := h1
    try simp at h1_
    try simp [h1, h1_]
    repeat' apply And.intro
    any_goals (first | exact hG338 _ (by kernel_rfl) | refine hR338 _ _ _ ?_ | omega | (unfold maxLen; omega) | (simp [h1, h1_]; done) | (simp [h1, h1_]; omega))
    refine AW.wk [(0, AV.lst false false (List.map (AV.int .i64) v0)), (1, AV.lst false false (List.map (AV.int .i64) v1)), (2, AV.int .i64 v2), (23, AV.bool true)] [] 0 (by simp [h1, h1_]) (by simp [h1, h1_]) (by simp) ?_
    refine AW.condT (by decide) (by simp [h1, h1_]) ?_
    refine AW.seqR mixed [] [none, none] (by kernel_rfl) fun G339 R339 hG339 hR339 => ?_
    try simp [h1, h1_]
    repeat' apply And.intro
    try any_goals (first | omega | (unfold maxLen; omega) | (simp [h1, h1_]; done))
    obtain ⟨v4, h2, hF⟩ := bnd1_elim hF
    refine aCall_l (w_law24_awake k _ h2) (by simp) [] [] [] rfl .nil (by simp [h1, h1_]) (by decide) (by simp) (by simp) (.inl rfl) (by simp) (by simp) ?_
    try simp [h1, h1_]
    repeat' apply And.intro
    any_goals (first | exact hG339 _ (by kernel_rfl) | refine hR339 _ _ _ ?_ | omega | (unfold maxLen; omega) | (simp [h1, h1_]; done) | (simp [h1, h1_]; omega))
    refine AW.wk [(6, AV.bool v4)] [] 0 (by simp [h1, h1_]) (by simp [h1, h1_]) (by simp) ?_
    simp only [Option.some.injEq] at hF
    subst hF
    refine AW.ret (hQ _ _ _ ?_ (matchO_0 ?_)).1
    · simp [Try.f16, h1, h1_]
    · simp [h1, h1_]
  · replace hF := ite_f h1 hF
    have h1_ := h1
    try simp at h1_
    try simp [h1, h1_]
    repeat' apply And.intro
    any_goals (first | exact hG338 _ (by kernel_rfl) | refine hR338 _ _ _ ?_ | omega | (unfold maxLen; omega) | (simp [h1, h1_]; done) | (simp [h1, h1_]; omega))
    refine AW.wk [(0, AV.lst false false (List.map (AV.int .i64) v0)), (1, AV.lst false false (List.map (AV.int .i64) v1)), (2, AV.int .i64 v2), (23, AV.bool (decide (200 < (v1.length : Int))))] [] 0 (by simp [h1, h1_]) (by simp [h1, h1_]) (by simp) ?_
    by_cases h3 : 200 < (v1.length : Int)
    · replace hF := ite_t h3 hF
      have h3_ := h3
      try simp at h3_
      refine AW.condT (by decide) (by first | (simp [h1, h1_, h3, h3_]; done) | (simp [h1, h1_, h3, h3_]; omega)) ?_
      refine AW.seqR mixed [] [none, none] (by kernel_rfl) fun G340 R340 hG340 hR340 => ?_
      try simp [h1, h1_, h3, h3_]
      repeat' apply And.intro
      try any_goals (first | omega | (unfold maxLen; omega) | (simp [h1, h1_, h3, h3_]; done))
      obtain ⟨v5, h4, hF⟩ := bnd1_elim hF
      refine aCall_l (w_law24_awake k _ h4) (by simp) [] [] [] rfl .nil (by simp [h1, h1_, h3, h3_]) (by decide) (by simp) (by simp) (.inl rfl) (by simp) (by simp) ?_
      try simp [h1, h1_, h3, h3_]
      repeat' apply And.intro
      any_goals (first | exact hG340 _ (by kernel_rfl) | refine hR340 _ _ _ ?_ | omega | (unfold maxLen; omega) | (simp [h1, h1_, h3, h3_]; done) | (simp [h1, h1_, h3, h3_]; omega))
      refine AW.wk [(6, AV.bool v5)] [] 0 (by simp [h1, h1_, h3, h3_]) (by simp [h1, h1_, h3, h3_]) (by simp) ?_
      simp only [Option.some.injEq] at hF
      subst hF
      refine AW.ret (hQ _ _ _ ?_ (matchO_0 ?_)).1
      · simp [Try.f16, h1, h1_, h3, h3_]
      · simp [h1, h1_, h3, h3_]
    · replace hF := ite_f h3 hF
      have h3_ := h3
      try simp at h3_
      refine AW.condF (by decide) (by first | (simp [h1, h1_, h3, h3_]; done) | (simp [h1, h1_, h3, h3_]; omega)) ?_
      refine AW.skip ?_
      refine hK337 _ _ _ ?_
      refine AW.seq fun K502 hK502 => ?_
      refine AW.seqR mixed [] [none] (by kernel_rfl) fun G503 R503 hG503 hR503 => ?_
      try simp [h1, h1_, h3, h3_]
      repeat' apply And.intro
      any_goals (first | exact hG503 _ (by kernel_rfl) | refine hR503 _ _ _ ?_ | omega | (unfold maxLen; omega) | (simp [h1, h1_, h3, h3_]; done) | (simp [h1, h1_, h3, h3_]; omega))
      refine AW.wk [(0, AV.lst false false (List.map (AV.int .i64) v0)), (1, AV.lst false false (List.map (AV.int .i64) v1)), (2, AV.int .i64 v2), (7, AV.int .i64 0)] [] 0 (by simp [h1, h1_, h3, h3_]) (by simp [h1, h1_, h3, h3_]) (by simp) ?_
      refine AW.block ?_
      refine AW.loopF (α := ((List Int) × Int)) (fun n (v6, v7) => law24_RosterRaw.L1 k v1 v2 n v6 v7 = some v3) (fun (v6, v7) => [(0, AV.lst false false (List.map (AV.int .i64) v6)), (1, AV.lst false false (List.map (AV.int .i64) v1)), (2, AV.int .i64 v2), (7, AV.int .i64 v7)]) (fun (v6, v7) => []) 0 k ((v0, 0)) hF (by simp [h1, h1_, h3, h3_]) (by simp [h1, h1_, h3, h3_]) (by simp) ?_
      rintro (_|n1) ⟨v6, v7⟩ hF K610 hK610
      · try dsimp only at hF
        rw [law24_RosterRaw.L1] at hF; cases hF
      try dsimp only at hF
      rw [law24_RosterRaw.L1] at hF
      refine AW.seq fun K612 hK612 => ?_
      refine AW.seqR mixed [] [none, none] (by kernel_rfl) fun G613 R613 hG613 hR613 => ?_
      try simp [h1, h1_, h3, h3_]
      repeat' apply And.intro
      any_goals (first | exact hG613 _ (by kernel_rfl) | refine hR613 _ _ _ ?_ | omega | (unfold maxLen; omega) | (simp [h1, h1_, h3, h3_]; done) | (simp [h1, h1_, h3, h3_]; omega))
      refine AW.wk [(0, AV.lst false false (List.map (AV.int .i64) v6)), (1, AV.lst false false (List.map (AV.int .i64) v1)), (2, AV.int .i64 v2), (7, AV.int .i64 v7), (26, AV.bool (decide (v7 < 2)))] [] 0 (by simp [h1, h1_, h3, h3_]) (by simp [h1, h1_, h3, h3_]) (by simp) ?_
      by_cases h5 : v7 < 2
      · replace hF := ite_t h5 hF
        have h5_ := h5
        try simp at h5_
        refine AW.condT (by decide) (by first | (simp [h1, h1_, h3, h3_, h5, h5_]; done) | (simp [h1, h1_, h3, h3_, h5, h5_]; omega)) ?_
        refine AW.skip ?_
        refine hK612 _ _ _ ?_
        refine AW.seq fun K638 hK638 => ?_
        refine AW.block ?_
        refine AW.seqR mixed [] [none, none, none, none, none, none, none] (by kernel_rfl) fun G639 R639 hG639 hR639 => ?_
        try simp [h1, h1_, h3, h3_, h5, h5_]
        repeat' apply And.intro
        try any_goals (first | omega | (unfold maxLen; omega) | (simp [h1, h1_, h3, h3_, h5, h5_]; done))
        obtain ⟨v8, v9, h6, hF⟩ := bnd2_elim hF
        refine aCall_l (w_roster_Encode k _ _ _ h6) (by simp) [] [] [] rfl (.cons (.same (by simp [h1, h1_, h3, h3_, h5, h5_])) .nil) (by simp [h1, h1_, h3, h3_, h5, h5_]) (by decide) (by simp) (by simp) (.inl rfl) (by simp) (by simp) ?_
        try simp [h1, h1_, h3, h3_, h5, h5_]
        repeat' apply And.intro
        any_goals (first | exact hG639 _ (by kernel_rfl) | refine hR639 _ _ _ ?_ | omega | (unfold maxLen; omega) | (simp [h1, h1_, h3, h3_, h5, h5_]; done) | (simp [h1, h1_, h3, h3_, h5, h5_]; omega))
        refine AW.wk [(0, AV.lst false false (List.map (AV.int .i64) v6)), (1, AV.lst false false (List.map (AV.int .i64) v1)), (2, AV.int .i64 v2), (7, AV.int .i64 v7), (8, AV.lst false false (List.map (AV.int .i64) v8)), (9, AV.int .i64 v9)] [] 0 (by simp [h1, h1_, h3, h3_, h5, h5_]) (by simp [h1, h1_, h3, h3_, h5, h5_]) (by simp) ?_
        refine AW.seqR mixed [] [none, none, none, none, none, none, none] (by kernel_rfl) fun G640 R640 hG640 hR640 => ?_
        try simp [h1, h1_, h3, h3_, h5, h5_]
        repeat' apply And.intro
        try any_goals (first | omega | (unfold maxLen; omega) | (simp [h1, h1_, h3, h3_, h5, h5_]; done))
        obtain ⟨v10, v11, h7, hF⟩ := bnd2_elim hF
        refine aCall_l (w_ref24_Encode k _ _ _ h7) (by simp) [] [] [] rfl (.cons (.same (by simp [h1, h1_, h3, h3_, h5, h5_])) .nil) (by simp [h1, h1_, h3, h3_, h5, h5_]) (by decide) (by simp) (by simp) (.inl rfl) (by simp) (by simp) ?_
        try simp [h1, h1_, h3, h3_, h5, h5_]
        repeat' apply And.intro
        any_goals (first | exact hG640 _ (by kernel_rfl) | refine hR640 _ _ _ ?_ | omega | (unfold maxLen; omega) | (simp [h1, h1_, h3, h3_, h5, h5_]; done) | (simp [h1, h1_, h3, h3_, h5, h5_]; omega))
        refine AW.wk [(0, AV.lst false false (List.map (AV.int .i64) v6)), (1, AV.lst false false (List.map (AV.int .i64) v1)), (2, AV.int .i64 v2), (7, AV.int .i64 v7), (8, AV.lst false false (List.map (AV.int .i64) v8)), (9, AV.int .i64 v9), (10, AV.lst false false (List.map (AV.int .i64) v10)), (11, AV.int .i64 v11)] [] 0 (by simp [h1, h1_, h3, h3_, h5, h5_]) (by simp [h1, h1_, h3, h3_, h5, h5_]) (by simp) ?_
        refine AW.seqR mixed [] [none, none, none, none, none, none, none] (by kernel_rfl) fun G641 R641 hG641 hR641 => ?_
        try simp [h1, h1_, h3, h3_, h5, h5_]
        repeat' apply And.intro
        try any_goals (first | omega | (unfold maxLen; omega) | (simp [h1, h1_, h3, h3_, h5, h5_]; done))
        obtain ⟨v12, v13, h8, hF⟩ := bnd2_elim hF
        refine aCall_l (w_roster_Decode k _ _ _ h8) (by simp) [] [] [] rfl (.cons (.same (by simp [h1, h1_, h3, h3_, h5, h5_])) .nil) (by simp [h1, h1_, h3, h3_, h5, h5_]) (by decide) (by simp) (by simp) (.inl rfl) (by simp) (by simp) ?_
        try simp [h1, h1_, h3, h3_, h5, h5_]
        repeat' apply And.intro
        any_goals (first | exact hG641 _ (by kernel_rfl) | refine hR641 _ _ _ ?_ | omega | (unfold maxLen; omega) | (simp [h1, h1_, h3, h3_, h5, h5_]; done) | (simp [h1, h1_, h3, h3_, h5, h5_]; omega))
        refine AW.wk [(0, AV.lst false false (List.map (AV.int .i64) v6)), (1, AV.lst false false (List.map (AV.int .i64) v1)), (2, AV.int .i64 v2), (7, AV.int .i64 v7), (8, AV.lst false false (List.map (AV.int .i64) v8)), (9, AV.int .i64 v9), (10, AV.lst false false (List.map (AV.int .i64) v10)), (11, AV.int .i64 v11), (12, AV.slc 0 0 1 v12.length false), (13, AV.int .i64 v13)] [(0, .grow (List.map (AV.int .i64) v12))] 1 (by simp [h1, h1_, h3, h3_, h5, h5_]) (by simp [h1, h1_, h3, h3_, h5, h5_]) (by simp) ?_
        refine AW.frz 0 (o := .grow (List.map (AV.int .i64) v12)) (by simp [h1, h1_, h3, h3_, h5, h5_]) rfl [(12, AV.lst false false (List.map (AV.int .i64) v12))] [] ⟨(.l (by simp) (by simp) (by simp) (by simp)), trivial⟩ trivial ?_
        refine AW.wk [(0, AV.lst false false (List.map (AV.int .i64) v6)), (1, AV.lst false false (List.map (AV.int .i64) v1)), (2, AV.int .i64 v2), (7, AV.int .i64 v7), (8, AV.lst false false (List.map (AV.int .i64) v8)), (9, AV.int .i64 v9), (10, AV.lst false false (List.map (AV.int .i64) v10)), (11, AV.int .i64 v11), (12, AV.lst false false (List.map (AV.int .i64) v12)), (13, AV.int .i64 v13)] [] 1 (by simp [h1, h1_, h3, h3_, h5, h5_]) (by simp [h1, h1_, h3, h3_, h5, h5_]) (by simp) ?_
        refine AW.seqR mixed [] [none, none, none, none, none, none, none] (by kernel_rfl) fun G642 R642 hG642 hR642 => ?_
        try simp [h1, h1_, h3, h3_, h5, h5_]
        repeat' apply And.intro
        try any_goals (first | omega | (unfold maxLen; omega) | (simp [h1, h1_, h3, h3_, h5, h5_]; done))
        obtain ⟨v14, v15, h9, hF⟩ := bnd2_elim hF
        refine aCall_l (w_ref24_Decode k _ _ _ h9) (by simp) [] [] [] rfl (.cons (.same (by simp [h1, h1_, h3, h3_, h5, h5_])) .nil) (by simp [h1, h1_, h3, h3_, h5, h5_]) (by decide) (by simp) (by simp) (.inl rfl) (by simp) (by simp) ?_
        try simp [h1, h1_, h3, h3_, h5, h5_]
        repeat' apply And.intro
        any_goals (first | exact hG642 _ (by kernel_rfl) | refine hR642 _ _ _ ?_ | omega | (unfold maxLen; omega) | (simp [h1, h1_, h3, h3_, h5, h5_]; done) | (simp [h1, h1_, h3, h3_, h5, h5_]; omega))
        refine AW.wk [(0, AV.lst false false (List.map (AV.int .i64) v6)), (1, AV.lst false false (List.map (AV.int .i64) v1)), (2, AV.int .i64 v2), (7, AV.int .i64 v7), (8, AV.lst false false (List.map (AV.int .i64) v8)), (9, AV.int .i64 v9), (10, AV.lst false false (List.map (AV.int .i64) v10)), (11, AV.int .i64 v11), (12, AV.lst false false (List.map (AV.int .i64) v12)), (13, AV.int .i64 v13), (14, AV.slc 1 0 1 v14.length false), (15, AV.int .i64 v15)] [(1, .grow (List.map (AV.int .i64) v14))] 2 (by simp [h1, h1_, h3, h3_, h5, h5_]) (by simp [h1, h1_, h3, h3_, h5, h5_]) (by simp) ?_
        refine AW.frz 1 (o := .grow (List.map (AV.int .i64) v14)) (by simp [h1, h1_, h3, h3_, h5, h5_]) rfl [(14, AV.lst false false (List.map (AV.int .i64) v14))] [] ⟨(.l (by simp) (by simp) (by simp) (by simp)), trivial⟩ trivial ?_
        refine AW.wk [(0, AV.lst false false (List.map (AV.int .i64) v6)), (1, AV.lst false false (List.map (AV.int .i64) v1)), (2, AV.int .i64 v2), (7, AV.int .i64 v7), (8, AV.lst false false (List.map (AV.int .i64) v8)), (9, AV.int .i64 v9), (10, AV.lst false false (List.map (AV.int .i64) v10)), (11, AV.int .i64 v11), (12, AV.lst false false (List.map (AV.int .i64) v12)), (13, AV.int .i64 v13), (14, AV.lst false false (List.map (AV.int .i64) v14)), (15, AV.int .i64 v15)] [] 2 (by simp [h1, h1_, h3, h3_, h5, h5_]) (by simp [h1, h1_, h3, h3_, h5, h5_]) (by simp) ?_
        refine AW.seq fun K652 hK652 => ?_
        refine AW.seqR mixed [] [none, none, none, none, some (52, false), some (52, false), some (52, false), none, none, some (57, false), some (57, false), some (57, false), some (57, false), none, none, some (63, false), some (63, false), some (63, false), some (63, false), none, none, some (69, false), some (69, false), some (69, false), some (69, false), some (69, false), none, none, some (76, false), some (76, false), some (76, false), some (76, false), some (76, false), some (76, false), some (76, false), none, none, some (85, false), some (85, false), some (85, false), some (85, false), some (85, false), some (85, false), some (85, false), some (85, false), none, none, some (95, false), some (95, false), some (95, false), some (95, false), some (95, false), some (95, false), some (95, false), some (95, false), none] (by kernel_rfl) fun G653 R653 hG653 hR653 => ?_
        by_cases h10 : v9 ≠ v11
        · replace hF := ite_t h10 hF
          have h10_ := eqb_f h10
          have h10__ := neb_t h10
          try simp [h1, h1_, h3, h3_, h5, h5_, h10, h10_, h10__]
          repeat' apply And.intro
          any_goals (first | exact hG653 _ (by kernel_rfl) | refine hR653 _ _ _ ?_ | omega | (unfold maxLen; omega) | (simp [h1, h1_, h3, h3_, h5, h5_, h10, h10_, h10__]; done) | (simp [h1, h1_, h3, h3_, h5, h5_, h10, h10_, h10__]; omega))
          refine AW.wk [(0, AV.lst false false (List.map (AV.int .i64) v6)), (1, AV.lst false false (List.map (AV.int .i64) v1)), (2, AV.int .i64 v2), (7, AV.int .i64 v7), (104, AV.bool true)] [] 2 (by simp [h1, h1_, h3, h3_, h5, h5_, h10, h10_, h10__]) (by simp [h1, h1_, h3, h3_, h5, h5_, h10, h10_, h10__]) (by simp) ?_
          refine AW.condT (by decide) (by simp [h1, h1_, h3, h3_, h5, h5_, h10, h10_, h10__]) ?_
          refine AW.seqR mixed [] [none] (by kernel_rfl) fun G654 R654 hG654 hR654 => ?_
          try simp [h1, h1_, h3, h3_, h5, h5_, h10, h10_, h10__]
          repeat' apply And.intro
          any_goals (first | exact hG654 _ (by kernel_rfl) | refine hR654 _ _ _ ?_ | omega | (unfold maxLen; omega) | (simp [h1, h1_, h3, h3_, h5, h5_, h10, h10_, h10__]; done) | (simp [h1, h1_, h3, h3_, h5, h5_, h10, h10_, h10__]; omega))
          refine AW.wk [(6, AV.bool false)] [] 2 (by simp [h1, h1_, h3, h3_, h5, h5_, h10, h10_, h10__]) (by simp [h1, h1_, h3, h3_, h5, h5_, h10, h10_, h10__]) (by simp) ?_
          simp only [Option.some.injEq] at hF
          subst hF
          refine AW.ret (hQ _ _ _ ?_ (matchO_0 ?_)).1
          · simp [Try.f16, h1, h1_, h3, h3_, h5, h5_, h10, h10_, h10__]
          · simp [h1, h1_, h3, h3_, h5, h5_, h10, h10_, h10__]
        · replace hF := ite_f h10 hF
          have h10q : v9 = v11 := Classical.not_not.1 h10
          have h10_ := eqb_t h10q
          have h10__ := neb_f h10q
          by_cases h11 : v13 ≠ v15
          · replace hF := ite_t h11 hF
            have h11_ := eqb_f h11
            have h11__ := neb_t h11
            try simp [h1, h1_, h3, h3_, h5, h5_, h10_, h10__, h11, h11_, h11__]
            repeat' apply And.intro
            any_goals (first | exact hG653 _ (by kernel_rfl) | refine hR653 _ _ _ ?_ | omega | (unfold maxLen; omega) | (simp [h1, h1_, h3, h3_, h5, h5_, h10_, h10__, h11, h11_, h11__]; done) | (simp [h1, h1_, h3, h3_, h5, h5_, h10_, h10__, h11, h11_, h11__]; omega))
            refine AW.wk [(0, AV.lst false false (List.map (AV.int .i64) v6)), (1, AV.lst false false (List.map (AV.int .i64) v1)), (2, AV.int .i64 v2), (7, AV.int .i64 v7), (104, AV.bool true)] [] 2 (by simp [h1, h1_, h3, h3_, h5, h5_, h10_, h10__, h11, h11_, h11__]) (by simp [h1, h1_, h3, h3_, h5, h5_, h10_, h10__, h11, h11_, h11__]) (by simp) ?_
            refine AW.condT (by decide) (by simp [h1, h1_, h3, h3_, h5, h5_, h10_, h10__, h11, h11_, h11__]) ?_
            refine AW.seqR mixed [] [none] (by kernel_rfl) fun G655 R655 hG655 hR655 => ?_
            try simp [h1, h1_, h3, h3_, h5, h5_, h10_, h10__, h11, h11_, h11__]
            repeat' apply And.intro
            any_goals (first | exact hG655 _ (by kernel_rfl) | refine hR655 _ _ _ ?_ | omega | (unfold maxLen; omega) | (simp [h1, h1_, h3, h3_, h5, h5_, h10_, h10__, h11, h11_, h11__]; done) | (simp [h1, h1_, h3, h3_, h5, h5_, h10_, h10__, h11, h11_, h11__]; omega))
            refine AW.wk [(6, AV.bool false)] [] 2 (by simp [h1, h1_, h3, h3_, h5, h5_, h10_, h10__, h11, h11_, h11__]) (by simp [h1, h1_, h3, h3_, h5, h5_, h10_, h10__, h11, h11_, h11__]) (by simp) ?_
            simp only [Option.some.injEq] at hF
            subst hF
            refine AW.ret (hQ _ _ _ ?_ (matchO_0 ?_)).1
            · simp [Try.f16, h1, h1_, h3, h3_, h5, h5_, h10_, h10__, h11, h11_, h11__]
            · simp [h1, h1_, h3, h3_, h5, h5_, h10_, h10__, h11, h11_, h11__]
          · replace hF := ite_f h11 hF
            have h11q : v13 = v15 := Classical.not_not.1 h11
            have h11_ := eqb_t h11q
            have h11__ := neb_f h11q
            try simp [h1, h1_, h3, h3_, h5, h5_, h10_, h10__, h11_, h11__]
            repeat' apply And.intro
            try any_goals (first | omega | (unfold maxLen; omega) | (simp [h1, h1_, h3, h3_, h5, h5_, h10_, h10__, h11_, h11__]; done))
            obtain ⟨v16, h12, hF⟩ := bnd1_elim hF
            refine aCall_l (w_ref23_SameInts k _ _ _ h12) (by simp) [] [] [] rfl (.cons (.same (by simp [h1, h1_, h3, h3_, h5, h5_, h10_, h10__, h11_, h11__])) (.cons (.same (by simp [h1, h1_, h3, h3_, h5, h5_, h10_, h10__, h11_, h11__])) .nil)) (by simp [h1, h1_, h3, h3_, h5, h5_, h10_, h10__, h11_, h11__]) (by decide) (by simp) (by simp) (.inl rfl) (by simp) (by simp) ?_
            by_cases h13 : (!v16) = true
            · replace hF := ite_t h13 hF
              have h13_ := h13
              try simp at h13_
              try simp [h1, h1_, h3, h3_, h5, h5_, h10_, h10__, h11_, h11__, h13, h13_]
              repeat' apply And.intro
              any_goals (first | exact hG653 _ (by kernel_rfl) | refine hR653 _ _ _ ?_ | omega | (unfold maxLen; omega) | (simp [h1, h1_, h3, h3_, h5, h5_, h10_, h10__, h11_, h11__, h13, h13_]; done) | (simp [h1, h1_, h3, h3_, h5, h5_, h10_, h10__, h11_, h11__, h13, h13_]; omega))
              refine AW.wk [(0, AV.lst false false (List.map (AV.int .i64) v6)), (1, AV.lst false false (List.map (AV.int .i64) v1)), (2, AV.int .i64 v2), (7, AV.int .i64 v7), (104, AV.bool true)] [] 2 (by simp [h1, h1_, h3, h3_, h5, h5_, h10_, h10__, h11_, h11__, h13, h13_]) (by simp [h1, h1_, h3, h3_, h5, h5_, h10_, h10__, h11_, h11__, h13, h13_]) (by simp) ?_
              refine AW.condT (by decide) (by simp [h1, h1_, h3, h3_, h5, h5_, h10_, h10__, h11_, h11__, h13, h13_]) ?_
              refine AW.seqR mixed [] [none] (by kernel_rfl) fun G656 R656 hG656 hR656 => ?_
              try simp [h1, h1_, h3, h3_, h5, h5_, h10_, h10__, h11_, h11__, h13, h13_]
              repeat' apply And.intro
              any_goals (first | exact hG656 _ (by kernel_rfl) | refine hR656 _ _ _ ?_ | omega | (unfold maxLen; omega) | (simp [h1, h1_, h3, h3_, h5, h5_, h10_, h10__, h11_, h11__, h13, h13_]; done) | (simp [h1, h1_, h3, h3_, h5, h5_, h10_, h10__, h11_, h11__, h13, h13_]; omega))
              refine AW.wk [(6, AV.bool false)] [] 2 (by simp [h1, h1_, h3, h3_, h5, h5_, h10_, h10__, h11_, h11__, h13, h13_]) (by simp [h1, h1_, h3, h3_, h5, h5_, h10_, h10__, h11_, h11__, h13, h13_]) (by simp) ?_
              simp only [Option.some.injEq] at hF
              subst hF
              refine AW.ret (hQ _ _ _ ?_ (matchO_0 ?_)).1
              · simp [Try.f16, h1, h1_, h3, h3_, h5, h5_, h10_, h10__, h11_, h11__, h13, h13_]
              · simp [h1, h1_, h3, h3_, h5, h5_, h10_, h10__, h11_, h11__, h13, h13_]
            · replace hF := ite_f h13 hF
              have h13_ := h13
              try simp at h13_
              try simp [h1, h1_, h3, h3_, h5, h5_, h10_, h10__, h11_, h11__, h13, h13_]
              repeat' apply And.intro
              try any_goals (first | omega | (unfold maxLen; omega) | (simp [h1, h1_, h3, h3_, h5, h5_, h10_, h10__, h11_, h11__, h13, h13_]; done))
              obtain ⟨v17, h14, hF⟩ := bnd1_elim hF
              refine aCall_l (w_ref23_SameInts k _ _ _ h14) (by simp) [] [] [] rfl (.cons (.same (by simp [h1, h1_, h3, h3_, h5, h5_, h10_, h10__, h11_, h11__, h13, h13_])) (.cons (.same (by simp [h1, h1_, h3, h3_, h5, h5_, h10_, h10__, h11_, h11__, h13, h13_])) .nil)) (by simp [h1, h1_, h3, h3_, h5, h5_, h10_, h10__, h11_, h11__, h13, h13_]) (by decide) (by simp) (by simp) (.inl rfl) (by simp) (by simp) ?_
              by_cases h15 : (!v17) = true
              · replace hF := ite_t h15 hF
                have h15_ := h15
                try simp at h15_
                try simp [h1, h1_, h3, h3_, h5, h5_, h10_, h10__, h11_, h11__, h13, h13_, h15, h15_]
                repeat' apply And.intro
                any_goals (first | exact hG653 _ (by kernel_rfl) | refine hR653 _ _ _ ?_ | omega | (unfold maxLen; omega) | (simp [h1, h1_, h3, h3_, h5, h5_, h10_, h10__, h11_, h11__, h13, h13_, h15, h15_]; done) | (simp [h1, h1_, h3, h3_, h5, h5_, h10_, h10__, h11_, h11__, h13, h13_, h15, h15_]; omega))
                refine AW.wk [(0, AV.lst false false (List.map (AV.int .i64) v6)), (1, AV.lst false false (List.map (AV.int .i64) v1)), (2, AV.int .i64 v2), (7, AV.int .i64 v7), (104, AV.bool true)] [] 2 (by simp [h1, h1_, h3, h3_, h5, h5_, h10_, h10__, h11_, h11__, h13, h13_, h15, h15_]) (by simp [h1, h1_, h3, h3_, h5, h5_, h10_, h10__, h11_, h11__, h13, h13_, h15, h15_]) (by simp) ?_
                refine AW.condT (by decide) (by simp [h1, h1_, h3, h3_, h5, h5_, h10_, h10__, h11_, h11__, h13, h13_, h15, h15_]) ?_
                refine AW.seqR mixed [] [none] (by kernel_rfl) fun G657 R657 hG657 hR657 => ?_
                try simp [h1, h1_, h3, h3_, h5, h5_, h10_, h10__, h11_, h11__, h13, h13_, h15, h15_]
                repeat' apply And.intro
                any_goals (first | exact hG657 _ (by kernel_rfl) | refine hR657 _ _ _ ?_ | omega | (unfold maxLen; omega) | (simp [h1, h1_, h3, h3_, h5, h5_, h10_, h10__, h11_, h11__, h13, h13_, h15, h15_]; done) | (simp [h1, h1_, h3, h3_, h5, h5_, h10_, h10__, h11_, h11__, h13, h13_, h15, h15_]; omega))
                refine AW.wk [(6, AV.bool false)] [] 2 (by simp [h1, h1_, h3, h3_, h5, h5_, h10_, h10__, h11_, h11__, h13, h13_, h15, h15_]) (by simp [h1, h1_, h3, h3_, h5, h5_, h10_, h10__, h11_, h11__, h13, h13_, h15, h15_]) (by simp) ?_
                simp only [Option.some.injEq] at hF
                subst hF
                refine AW.ret (hQ _ _ _ ?_ (matchO_0 ?_)).1
                · simp [Try.f16, h1, h1_, h3, h3_, h5, h5_, h10_, h10__, h11_, h11__, h13, h13_, h15, h15_]
                · simp [h1, h1_, h3, h3_, h5, h5_, h10_, h10__, h11_, h11__, h13, h13_, h15, h15_]
              · replace hF := ite_f h15 hF
                have h15_ := h15
                try simp at h15_
                try simp [h1, h1_, h3, h3_, h5, h5_, h10_, h10__, h11_, h11__, h13, h13_, h15, h15_]
                repeat' apply And.intro
                try any_goals (first | omega | (unfold maxLen; omega) | (simp [h1, h1_, h3, h3_, h5, h5_, h10_, h10__, h11_, h11__, h13, h13_, h15, h15_]; done))
                obtain ⟨v18, h16, hF⟩ := bnd1_elim hF
                refine aCall_l (w_roster_Valid k _ _ h16) (by simp) [] [] [] rfl (.cons (.same (by simp [h1, h1_, h3, h3_, h5, h5_, h10_, h10__, h11_, h11__, h13, h13_, h15, h15_])) .nil) (by simp [h1, h1_, h3, h3_, h5, h5_, h10_, h10__, h11_, h11__, h13, h13_, h15, h15_]) (by decide) (by simp) (by simp) (.inl rfl) (by simp) (by simp) ?_
                try simp [h1, h1_, h3, h3_, h5, h5_, h10_, h10__, h11_, h11__, h13, h13_, h15, h15_]
                repeat' apply And.intro
                try any_goals (first | omega | (unfold maxLen; omega) | (simp [h1, h1_, h3, h3_, h5, h5_, h10_, h10__, h11_, h11__, h13, h13_, h15, h15_]; done))
                obtain ⟨v19, h17, hF⟩ := bnd1_elim hF
                refine aCall_l (w_ref24_Valid k _ _ h17) (by simp) [] [] [] rfl (.cons (.same (by simp [h1, h1_, h3, h3_, h5, h5_, h10_, h10__, h11_, h11__, h13, h13_, h15, h15_])) .nil) (by simp [h1, h1_, h3, h3_, h5, h5_, h10_, h10__, h11_, h11__, h13, h13_, h15, h15_]) (by decide) (by simp) (by simp) (.inl rfl) (by simp) (by simp) ?_
                by_cases h18 : (v18 != v19) = true
                · replace hF := ite_t h18 hF
                  have h18_ := h18
                  try simp at h18_
                  try simp [h1, h1_, h3, h3_, h5, h5_, h10_, h10__, h11_, h11__, h13, h13_, h15, h15_, h18, h18_]
                  repeat' apply And.intro
                  any_goals (first | exact hG653 _ (by kernel_rfl) | refine hR653 _ _ _ ?_ | omega | (unfold maxLen; omega) | (simp [h1, h1_, h3, h3_, h5, h5_, h10_, h10__, h11_, h11__, h13, h13_, h15, h15_, h18, h18_]; done) | (simp [h1, h1_, h3, h3_, h5, h5_, h10_, h10__, h11_, h11__, h13, h13_, h15, h15_, h18, h18_]; omega))
                  refine AW.wk [(0, AV.lst false false (List.map (AV.int .i64) v6)), (1, AV.lst false false (List.map (AV.int .i64) v1)), (2, AV.int .i64 v2), (7, AV.int .i64 v7), (104, AV.bool true)] [] 2 (by simp [h1, h1_, h3, h3_, h5, h5_, h10_, h10__, h11_, h11__, h13, h13_, h15, h15_, h18, h18_]) (by simp [h1, h1_, h3, h3_, h5, h5_, h10_, h10__, h11_, h11__, h13, h13_, h15, h15_, h18, h18_]) (by simp) ?_
                  refine AW.condT (by decide) (by simp [h1, h1_, h3, h3_, h5, h5_, h10_, h10__, h11_, h11__, h13, h13_, h15, h15_, h18, h18_]) ?_
                  refine AW.seqR mixed [] [none] (by kernel_rfl) fun G658 R658 hG658 hR658 => ?_
                  try simp [h1, h1_, h3, h3_, h5, h5_, h10_, h10__, h11_, h11__, h13, h13_, h15, h15_, h18, h18_]
                  repeat' apply And.intro
                  any_goals (first | exact hG658 _ (by kernel_rfl) | refine hR658 _ _ _ ?_ | omega | (unfold maxLen; omega) | (simp [h1, h1_, h3, h3_, h5, h5_, h10_, h10__, h11_, h11__, h13, h13_, h15, h15_, h18, h18_]; done) | (simp [h1, h1_, h3, h3_, h5, h5_, h10_, h10__, h11_, h11__, h13, h13_, h15, h15_, h18, h18_]; omega))
                  refine AW.wk [(6, AV.bool false)] [] 2 (by simp [h1, h1_, h3, h3_, h5, h5_, h10_, h10__, h11_, h11__, h13, h13_, h15, h15_, h18, h18_]) (by simp [h1, h1_, h3, h3_, h5, h5_, h10_, h10__, h11_, h11__, h13, h13_, h15, h15_, h18, h18_]) (by simp) ?_
                  simp only [Option.some.injEq] at hF
                  subst hF
                  refine AW.ret (hQ _ _ _ ?_ (matchO_0 ?_)).1
                  · simp [Try.f16, h1, h1_, h3, h3_, h5, h5_, h10_, h10__, h11_, h11__, h13, h13_, h15, h15_, h18, h18_]
                  · simp [h1, h1_, h3, h3_, h5, h5_, h10_, h10__, h11_, h11__, h13, h13_, h15, h15_, h18, h18_]
                · replace hF := ite_f h18 hF
                  have h18_ := h18
                  try simp at h18_
                  try simp [h1, h1_, h3, h3_, h5, h5_, h10_, h10__, h11_, h11__, h13, h13_, h15, h15_, h18, h18_]
                  repeat' apply And.intro
                  try any_goals (first | omega | (unfold maxLen; omega) | (simp [h1, h1_, h3, h3_, h5, h5_, h10_, h10__, h11_, h11__, h13, h13_, h15, h15_, h18, h18_]; done))
                  obtain ⟨v20, h19, hF⟩ := bnd1_elim hF
                  refine aCall_l (w_roster_Has k _ _ _ h19) (by simp) [] [] [] rfl (.cons (.same (by simp [h1, h1_, h3, h3_, h5, h5_, h10_, h10__, h11_, h11__, h13, h13_, h15, h15_, h18, h18_])) (.cons (.same (by simp [h1, h1_, h3, h3_, h5, h5_, h10_, h10__, h11_, h11__, h13, h13_, h15, h15_, h18, h18_])) .nil)) (by simp [h1, h1_, h3, h3_, h5, h5_, h10_, h10__, h11_, h11__, h13, h13_, h15, h15_, h18, h18_]) (by decide) (by simp) (by simp) (.inl rfl) (by simp) (by simp) ?_
                  try simp [h1, h1_, h3, h3_, h5, h5_, h10_, h10__, h11_, h11__, h13, h13_, h15, h15_, h18, h18_]
                  repeat' apply And.intro
                  try any_goals (first | omega | (unfold maxLen; omega) | (simp [h1, h1_, h3, h3_, h5, h5_, h10_, h10__, h11_, h11__, h13, h13_, h15, h15_, h18, h18_]; done))
                  obtain ⟨v21, h20, hF⟩ := bnd1_elim hF
                  refine aCall_l (w_ref24_Has k _ _ _ h20) (by simp) [] [] [] rfl (.cons (.same (by simp [h1, h1_, h3, h3_, h5, h5_, h10_, h10__, h11_, h11__, h13, h13_, h15, h15_, h18, h18_])) (.cons (.same (by simp [h1, h1_, h3, h3_, h5, h5_, h10_, h10__, h11_, h11__, h13, h13_, h15, h15_, h18, h18_])) .nil)) (by simp [h1, h1_, h3, h3_, h5, h5_, h10_, h10__, h11_, h11__, h13, h13_, h15, h15_, h18, h18_]) (by decide) (by simp) (by simp) (.inl rfl) (by simp) (by simp) ?_
                  by_cases h21 : (v20 != v21) = true
                  · replace hF := ite_t h21 hF
                    have h21_ := h21
                    try simp at h21_
                    try simp [h1, h1_, h3, h3_, h5, h5_, h10_, h10__, h11_, h11__, h13, h13_, h15, h15_, h18, h18_, h21, h21_]
                    repeat' apply And.intro
                    any_goals (first | exact hG653 _ (by kernel_rfl) | refine hR653 _ _ _ ?_ | omega | (unfold maxLen; omega) | (simp [h1, h1_, h3, h3_, h5, h5_, h10_, h10__, h11_, h11__, h13, h13_, h15, h15_, h18, h18_, h21, h21_]; done) | (simp [h1, h1_, h3, h3_, h5, h5_, h10_, h10__, h11_, h11__, h13, h13_, h15, h15_, h18, h18_, h21, h21_]; omega))
                    refine AW.wk [(0, AV.lst false false (List.map (AV.int .i64) v6)), (1, AV.lst false false (List.map (AV.int .i64) v1)), (2, AV.int .i64 v2), (7, AV.int .i64 v7), (104, AV.bool true)] [] 2 (by simp [h1, h1_, h3, h3_, h5, h5_, h10_, h10__, h11_, h11__, h13, h13_, h15, h15_, h18, h18_, h21, h21_]) (by simp [h1, h1_, h3, h3_, h5, h5_, h10_, h10__, h11_, h11__, h13, h13_, h15, h15_, h18, h18_, h21, h21_]) (by simp) ?_
                    refine AW.condT (by decide) (by simp [h1, h1_, h3, h3_, h5, h5_, h10_, h10__, h11_, h11__, h13, h13_, h15, h15_, h18, h18_, h21, h21_]) ?_
                    refine AW.seqR mixed [] [none] (by kernel_rfl) fun G659 R659 hG659 hR659 => ?_
                    try simp [h1, h1_, h3, h3_, h5, h5_, h10_, h10__, h11_, h11__, h13, h13_, h15, h15_, h18, h18_, h21, h21_]
                    repeat' apply And.intro
                    any_goals (first | exact hG659 _ (by kernel_rfl) | refine hR659 _ _ _ ?_ | omega | (unfold maxLen; omega) | (simp [h1, h1_, h3, h3_, h5, h5_, h10_, h10__, h11_, h11__, h13, h13_, h15, h15_, h18, h18_, h21, h21_]; done) | (simp [h1, h1_, h3, h3_, h5, h5_, h10_, h10__, h11_, h11__, h13, h13_, h15, h15_, h18, h18_, h21, h21_]; omega))
                    refine AW.wk [(6, AV.bool false)] [] 2 (by simp [h1, h1_, h3, h3_, h5, h5_, h10_, h10__, h11_, h11__, h13, h13_, h15, h15_, h18, h18_, h21, h21_]) (by simp [h1, h1_, h3, h3_, h5, h5_, h10_, h10__, h11_, h11__, h13, h13_, h15, h15_, h18, h18_, h21, h21_]) (by simp) ?_
                    simp only [Option.some.injEq] at hF
                    subst hF
                    refine AW.ret (hQ _ _ _ ?_ (matchO_0 ?_)).1
                    · simp [Try.f16, h1, h1_, h3, h3_, h5, h5_, h10_, h10__, h11_, h11__, h13, h13_, h15, h15_, h18, h18_, h21, h21_]
                    · simp [h1, h1_, h3, h3_, h5, h5_, h10_, h10__, h11_, h11__, h13, h13_, h15, h15_, h18, h18_, h21, h21_]
                  · replace hF := ite_f h21 hF
                    have h21_ := h21
                    try simp at h21_
                    try simp [h1, h1_, h3, h3_, h5, h5_, h10_, h10__, h11_, h11__, h13, h13_, h15, h15_, h18, h18_, h21, h21_]
                    repeat' apply And.intro
                    try any_goals (first | omega | (unfold maxLen; omega) | (simp [h1, h1_, h3, h3_, h5, h5_, h10_, h10__, h11_, h11__, h13, h13_, h15, h15_, h18, h18_, h21, h21_]; done))
                    obtain ⟨v22, h22, hF⟩ := bnd1_elim hF
                    refine aCall_l (w_roster_Join k _ _ _ h22) (by simp) [] [] [] rfl (.cons (.same (by simp [h1, h1_, h3, h3_, h5, h5_, h10_, h10__, h11_, h11__, h13, h13_, h15, h15_, h18, h18_, h21, h21_])) (.cons (.same (by simp [h1, h1_, h3, h3_, h5, h5_, h10_, h10__, h11_, h11__, h13, h13_, h15, h15_, h18, h18_, h21, h21_])) .nil)) (by simp [h1, h1_, h3, h3_, h5, h5_, h10_, h10__, h11_, h11__, h13, h13_, h15, h15_, h18, h18_, h21, h21_]) (by decide) (by simp) (by simp) (.inl rfl) (by simp) (by simp) ?_
                    try simp [h1, h1_, h3, h3_, h5, h5_, h10_, h10__, h11_, h11__, h13, h13_, h15, h15_, h18, h18_, h21, h21_]
                    repeat' apply And.intro
                    try any_goals (first | omega | (unfold maxLen; omega) | (simp [h1, h1_, h3, h3_, h5, h5_, h10_, h10__, h11_, h11__, h13, h13_, h15, h15_, h18, h18_, h21, h21_]; done))
                    obtain ⟨v23, h23, hF⟩ := bnd1_elim hF
                    refine aCall_l (w_ref24_Join k _ _ _ h23) (by simp) [] [] [] rfl (.cons (.same (by simp [h1, h1_, h3, h3_, h5, h5_, h10_, h10__, h11_, h11__, h13, h13_, h15, h15_, h18, h18_, h21, h21_])) (.cons (.same (by simp [h1, h1_, h3, h3_, h5, h5_, h10_, h10__, h11_, h11__, h13, h13_, h15, h15_, h18, h18_, h21, h21_])) .nil)) (by simp [h1, h1_, h3, h3_, h5, h5_, h10_, h10__, h11_, h11__, h13, h13_, h15, h15_, h18, h18_, h21, h21_]) (by decide) (by simp) (by simp) (.inl rfl) (by simp) (by simp) ?_
                    try simp [h1, h1_, h3, h3_, h5, h5_, h10_, h10__, h11_, h11__, h13, h13_, h15, h15_, h18, h18_, h21, h21_]
                    repeat' apply And.intro
                    try any_goals (first | omega | (unfold maxLen; omega) | (simp [h1, h1_, h3, h3_, h5, h5_, h10_, h10__, h11_, h11__, h13, h13_, h15, h15_, h18, h18_, h21, h21_]; done))
                    obtain ⟨v24, h24, hF⟩ := bnd1_elim hF
                    refine aCall_l (w_ref23_SameInts k _ _ _ h24) (by simp) [] [2, 3] [] rfl (.cons (Coe.l (o := .grow (List.map (AV.int .i64) v22)) (by simp [h1, h1_, h3, h3_, h5, h5_, h10_, h10__, h11_, h11__, h13, h13_, h15, h15_, h18, h18_, h21, h21_]) rfl (by simp [h1, h1_, h3, h3_, h5, h5_, h10_, h10__, h11_, h11__, h13, h13_, h15, h15_, h18, h18_, h21, h21_]) (by simp [noIdsL]) (by simp [h1, h1_, h3, h3_, h5, h5_, h10_, h10__, h11_, h11__, h13, h13_, h15, h15_, h18, h18_, h21, h21_]) (by simp [h1, h1_, h3, h3_, h5, h5_, h10_, h10__, h11_, h11__, h13, h13_, h15, h15_, h18, h18_, h21, h21_])) (.cons (Coe.l (o := .grow (List.map (AV.int .i64) v23)) (by simp [h1, h1_, h3, h3_, h5, h5_, h10_, h10__, h11_, h11__, h13, h13_, h15, h15_, h18, h18_, h21, h21_]) rfl (by simp [h1, h1_, h3, h3_, h5, h5_, h10_, h10__, h11_, h11__, h13, h13_, h15, h15_, h18, h18_, h21, h21_]) (by simp [noIdsL]) (by simp [h1, h1_, h3, h3_, h5, h5_, h10_, h10__, h11_, h11__, h13, h13_, h15, h15_, h18, h18_, h21, h21_]) (by simp [h1, h1_, h3, h3_, h5, h5_, h10_, h10__, h11_, h11__, h13, h13_, h15, h15_, h18, h18_, h21, h21_])) .nil)) (by simp [h1, h1_, h3, h3_, h5, h5_, h10_, h10__, h11_, h11__, h13, h13_, h15, h15_, h18, h18_, h21, h21_]) (by decide) (by simp) (by simp) (.inr ⟨by simp, by simp⟩) (by simp) (by simp) ?_
                    by_cases h25 : (!v24) = true
                    · replace hF := ite_t h25 hF
                      have h25_ := h25
                      try simp at h25_
                      try simp [h1, h1_, h3, h3_, h5, h5_, h10_, h10__, h11_, h11__, h13, h13_, h15, h15_, h18, h18_, h21, h21_, h25, h25_]
                      repeat' apply And.intro
                      any_goals (first | exact hG653 _ (by kernel_rfl) | refine hR653 _ _ _ ?_ | omega | (unfold maxLen; omega) | (simp [h1, h1_, h3, h3_, h5, h5_, h10_, h10__, h11_, h11__, h13, h13_, h15, h15_, h18, h18_, h21, h21_, h25, h25_]; done) | (simp [h1, h1_, h3, h3_, h5, h5_, h10_, h10__, h11_, h11__, h13, h13_, h15, h15_, h18, h18_, h21, h21_, h25, h25_]; omega))
                      refine AW.wk [(0, AV.lst false false (List.map (AV.int .i64) v6)), (1, AV.lst false false (List.map (AV.int .i64) v1)), (2, AV.int .i64 v2), (7, AV.int .i64 v7), (104, AV.bool true)] [] 4 (by simp [h1, h1_, h3, h3_, h5, h5_, h10_, h10__, h11_, h11__, h13, h13_, h15, h15_, h18, h18_, h21, h21_, h25, h25_]) (by simp [h1, h1_, h3, h3_, h5, h5_, h10_, h10__, h11_, h11__, h13, h13_, h15, h15_, h18, h18_, h21, h21_, h25, h25_]) (by simp) ?_
                      refine AW.condT (by decide) (by simp [h1, h1_, h3, h3_, h5, h5_, h10_, h10__, h11_, h11__, h13, h13_, h15, h15_, h18, h18_, h21, h21_, h25, h25_]) ?_
                      refine AW.seqR mixed [] [none] (by kernel_rfl) fun G660 R660 hG660 hR660 => ?_
                      try simp [h1, h1_, h3, h3_, h5, h5_, h10_, h10__, h11_, h11__, h13, h13_, h15, h15_, h18, h18_, h21, h21_, h25, h25_]
                      repeat' apply And.intro
                      any_goals (first | exact hG660 _ (by kernel_rfl) | refine hR660 _ _ _ ?_ | omega | (unfold maxLen; omega) | (simp [h1, h1_, h3, h3_, h5, h5_, h10_, h10__, h11_, h11__, h13, h13_, h15, h15_, h18, h18_, h21, h21_, h25, h25_]; done) | (simp [h1, h1_, h3, h3_, h5, h5_, h10_, h10__, h11_, h11__, h13, h13_, h15, h15_, h18, h18_, h21, h21_, h25, h25_]; omega))
                      refine AW.wk [(6, AV.bool false)] [] 4 (by simp [h1, h1_, h3, h3_, h5, h5_, h10_, h10__, h11_, h11__, h13, h13_, h15, h15_, h18, h18_, h21, h21_, h25, h25_]) (by simp [h1, h1_, h3, h3_, h5, h5_, h10_, h10__, h11_, h11__, h13, h13_, h15, h15_, h18, h18_, h21, h21_, h25, h25_]) (by simp) ?_
                      simp only [Option.some.injEq] at hF
                      subst hF
                      refine AW.ret (hQ _ _ _ ?_ (matchO_0 ?_)).1
                      · simp [Try.f16, h1, h1_, h3, h3_, h5, h5_, h10_, h10__, h11_, h11__, h13, h13_, h15, h15_, h18, h18_, h21, h21_, h25, h25_]
                      · simp [h1, h1_, h3, h3_, h5, h5_, h10_, h10__, h11_, h11__, h13, h13_, h15, h15_, h18, h18_, h21, h21_, h25, h25_]
                    · replace hF := ite_f h25 hF
                      have h25_ := h25
                      try simp at h25_
                      try simp [h1, h1_, h3, h3_, h5, h5_, h10_, h10__, h11_, h11__, h13, h13_, h15, h15_, h18, h18_, h21, h21_, h25, h25_]
                      repeat' apply And.intro
                      try any_goals (first | omega | (unfold maxLen; omega) | (simp [h1, h1_, h3, h3_, h5, h5_, h10_, h10__, h11_, h11__, h13, h13_, h15, h15_, h18, h18_, h21, h21_, h25, h25_]; done))
                      obtain ⟨v25, h26, hF⟩ := bnd1_elim hF
                      refine aCall_l (w_roster_Minus k _ _ _ h26) (by simp) [] [] [] rfl (.cons (.same (by simp [h1, h1_, h3, h3_, h5, h5_, h10_, h10__, h11_, h11__, h13, h13_, h15, h15_, h18, h18_, h21, h21_, h25, h25_])) (.cons (.same (by simp [h1, h1_, h3, h3_, h5, h5_, h10_, h10__, h11_, h11__, h13, h13_, h15, h15_, h18, h18_, h21, h21_, h25, h25_])) .nil)) (by simp [h1, h1_, h3, h3_, h5, h5_, h10_, h10__, h11_, h11__, h13, h13_, h15, h15_, h18, h18_, h21, h21_, h25, h25_]) (by decide) (by simp) (by simp) (.inl rfl) (by simp) (by simp) ?_
                      try simp [h1, h1_, h3, h3_, h5, h5_, h10_, h10__, h11_, h11__, h13, h13_, h15, h15_, h18, h18_, h21, h21_, h25, h25_]
                      repeat' apply And.intro
                      try any_goals (first | omega | (unfold maxLen; omega) | (simp [h1, h1_, h3, h3_, h5, h5_, h10_, h10__, h11_, h11__, h13, h13_, h15, h15_, h18, h18_, h21, h21_, h25, h25_]; done))
                      obtain ⟨v26, h27, hF⟩ := bnd1_elim hF
                      refine aCall_l (w_ref24_Minus k _ _ _ h27) (by simp) [] [] [] rfl (.cons (.same (by simp [h1, h1_, h3, h3_, h5, h5_, h10_, h10__, h11_, h11__, h13, h13_, h15, h15_, h18, h18_, h21, h21_, h25, h25_])) (.cons (.same (by simp [h1, h1_, h3, h3_, h5, h5_, h10_, h10__, h11_, h11__, h13, h13_, h15, h15_, h18, h18_, h21, h21_, h25, h25_])) .nil)) (by simp [h1, h1_, h3, h3_, h5, h5_, h10_, h10__, h11_, h11__, h13, h13_, h15, h15_, h18, h18_, h21, h21_, h25, h25_]) (by decide) (by simp) (by simp) (.inl rfl) (by simp) (by simp) ?_
                      try simp [h1, h1_, h3, h3_, h5, h5_, h10_, h10__, h11_, h11__, h13, h13_, h15, h15_, h18, h18_, h21, h21_, h25, h25_]
                      repeat' apply And.intro
                      try any_goals (first | omega | (unfold maxLen; omega) | (simp [h1, h1_, h3, h3_, h5, h5_, h10_, h10__, h11_, h11__, h13, h13_, h15, h15_, h18, h18_, h21, h21_, h25, h25_]; done))
                      obtain ⟨v27, h28, hF⟩ := bnd1_elim hF
                      refine aCall_l (w_ref23_SameInts k _ _ _ h28) (by simp) [] [4, 5] [] rfl (.cons (Coe.l (o := .grow (List.map (AV.int .i64) v25)) (by simp [h1, h1_, h3, h3_, h5, h5_, h10_, h10__, h11_, h11__, h13, h13_, h15, h15_, h18, h18_, h21, h21_, h25, h25_]) rfl (by simp [h1, h1_, h3, h3_, h5, h5_, h10_, h10__, h11_, h11__, h13, h13_, h15, h15_, h18, h18_, h21, h21_, h25, h25_]) (by simp [noIdsL]) (by simp [h1, h1_, h3, h3_, h5, h5_, h10_, h10__, h11_, h11__, h13, h13_, h15, h15_, h18, h18_, h21, h21_, h25, h25_]) (by simp [h1, h1_, h3, h3_, h5, h5_, h10_, h10__, h11_, h11__, h13, h13_, h15, h15_, h18, h18_, h21, h21_, h25, h25_])) (.cons (Coe.l (o := .grow (List.map (AV.int .i64) v26)) (by simp [h1, h1_, h3, h3_, h5, h5_, h10_, h10__, h11_, h11__, h13, h13_, h15, h15_, h18, h18_, h21, h21_, h25, h25_]) rfl (by simp [h1, h1_, h3, h3_, h5, h5_, h10_, h10__, h11_, h11__, h13, h13_, h15, h15_, h18, h18_, h21, h21_, h25, h25_]) (by simp [noIdsL]) (by simp [h1, h1_, h3, h3_, h5, h5_, h10_, h10__, h11_, h11__, h13, h13_, h15, h15_, h18, h18_, h21, h21_, h25, h25_]) (by simp [h1, h1_, h3, h3_, h5, h5_, h10_, h10__, h11_, h11__, h13, h13_, h15, h15_, h18, h18_, h21, h21_, h25, h25_])) .nil)) (by simp [h1, h1_, h3, h3_, h5, h5_, h10_, h10__, h11_, h11__, h13, h13_, h15, h15_, h18, h18_, h21, h21_, h25, h25_]) (by decide) (by simp) (by simp) (.inr ⟨by simp, by simp⟩) (by simp) (by simp) ?_
                      try simp [h1, h1_, h3, h3_, h5, h5_, h10_, h10__, h11_, h11__, h13, h13_, h15, h15_, h18, h18_, h21, h21_, h25, h25_]
                      repeat' apply And.intro
                      any_goals (first | exact hG653 _ (by kernel_rfl) | refine hR653 _ _ _ ?_ | omega | (unfold maxLen; omega) | (simp [h1, h1_, h3, h3_, h5, h5_, h10_, h10__, h11_, h11__, h13, h13_, h15, h15_, h18, h18_, h21, h21_, h25, h25_]; done) | (simp [h1, h1_, h3, h3_, h5, h5_, h10_, h10__, h11_, h11__, h13, h13_, h15, h15_, h18, h18_, h21, h21_, h25, h25_]; omega))
                      refine AW.wk [(0, AV.lst false false (List.map (AV.int .i64) v6)), (1, AV.lst false false (List.map (AV.int .i64) v1)), (2, AV.int .i64 v2), (7, AV.int .i64 v7), (104, AV.bool (!v27))] [] 6 (by simp [h1, h1_, h3, h3_, h5, h5_, h10_, h10__, h11_, h11__, h13, h13_, h15, h15_, h18, h18_, h21, h21_, h25, h25_]) (by simp [h1, h1_, h3, h3_, h5, h5_, h10_, h10__, h11_, h11__, h13, h13_, h15, h15_, h18, h18_, h21, h21_, h25, h25_]) (by simp) ?_
                      by_cases h29 : (!v27) = true
                      · replace hF := ite_t h29 hF
                        have h29_ := h29
                        try simp at h29_
                        refine AW.condT (by decide) (by first | (simp [h1, h1_, h3, h3_, h5, h5_, h10_, h10__, h11_, h11__, h13, h13_, h15, h15_, h18, h18_, h21, h21_, h25, h25_, h29, h29_]; done) | (simp [h1, h1_, h3, h3_, h5, h5_, h10_, h10__, h11_, h11__, h13, h13_, h15, h15_, h18, h18_, h21, h21_, h25, h25_, h29, h29_]; omega)) ?_
                        refine AW.seqR mixed [] [none] (by kernel_rfl) fun G661 R661 hG661 hR661 => ?_
                        try simp [h1, h1_, h3, h3_, h5, h5_, h10_, h10__, h11_, h11__, h13, h13_, h15, h15_, h18, h18_, h21, h21_, h25, h25_, h29, h29_]
                        repeat' apply And.intro
                        any_goals (first | exact hG661 _ (by kernel_rfl) | refine hR661 _ _ _ ?_ | omega | (unfold maxLen; omega) | (simp [h1, h1_, h3, h3_, h5, h5_, h10_, h10__, h11_, h11__, h13, h13_, h15, h15_, h18, h18_, h21, h21_, h25, h25_, h29, h29_]; done) | (simp [h1, h1_, h3, h3_, h5, h5_, h10_, h10__, h11_, h11__, h13, h13_, h15, h15_, h18, h18_, h21, h21_, h25, h25_, h29, h29_]; omega))
                        refine AW.wk [(6, AV.bool false)] [] 6 (by simp [h1, h1_, h3, h3_, h5, h5_, h10_, h10__, h11_, h11__, h13, h13_, h15, h15_, h18, h18_, h21, h21_, h25, h25_, h29, h29_]) (by simp [h1, h1_, h3, h3_, h5, h5_, h10_, h10__, h11_, h11__, h13, h13_, h15, h15_, h18, h18_, h21, h21_, h25, h25_, h29, h29_]) (by simp) ?_
                        simp only [Option.some.injEq] at hF
                        subst hF
                        refine AW.ret (hQ _ _ _ ?_ (matchO_0 ?_)).1
                        · simp [Try.f16, h1, h1_, h3, h3_, h5, h5_, h10_, h10__, h11_, h11__, h13, h13_, h15, h15_, h18, h18_, h21, h21_, h25, h25_, h29, h29_]
                        · simp [h1, h1_, h3, h3_, h5, h5_, h10_, h10__, h11_, h11__, h13, h13_, h15, h15_, h18, h18_, h21, h21_, h25, h25_, h29, h29_]
                      · replace hF := ite_f h29 hF
                        have h29_ := h29
                        try simp at h29_
                        refine AW.condF (by decide) (by first | (simp [h1, h1_, h3, h3_, h5, h5_, h10_, h10__, h11_, h11__, h13, h13_, h15, h15_, h18, h18_, h21, h21_, h25, h25_, h29, h29_]; done) | (simp [h1, h1_, h3, h3_, h5, h5_, h10_, h10__, h11_, h11__, h13, h13_, h15, h15_, h18, h18_, h21, h21_, h25, h25_, h29, h29_]; omega)) ?_
                        refine AW.skip ?_
                        refine hK652 _ _ _ ?_
                        refine AW.region mixed [] [none, none, none] (by kernel_rfl) fun G662 R662 hG662 hR662 => ?_
                        try simp [h1, h1_, h3, h3_, h5, h5_, h10_, h10__, h11_, h11__, h13, h13_, h15, h15_, h18, h18_, h21, h21_, h25, h25_, h29, h29_]
                        repeat' apply And.intro
                        try any_goals (first | omega | (unfold maxLen; omega) | (simp [h1, h1_, h3, h3_, h5, h5_, h10_, h10__, h11_, h11__, h13, h13_, h15, h15_, h18, h18_, h21, h21_, h25, h25_, h29, h29_]; done))
                        obtain ⟨v28, h30, hF⟩ := bnd1_elim hF
                        refine aCall_l (w_ref24_Join k _ _ _ h30) (by simp) [] [] [] rfl (.cons (.same (by simp [h1, h1_, h3, h3_, h5, h5_, h10_, h10__, h11_, h11__, h13, h13_, h15, h15_, h18, h18_, h21, h21_, h25, h25_, h29, h29_])) (.cons (Coe.fl (by simp [h1, h1_, h3, h3_, h5, h5_, h10_, h10__, h11_, h11__, h13, h13_, h15, h15_, h18, h18_, h21, h21_, h25, h25_, h29, h29_])) .nil)) (by simp [h1, h1_, h3, h3_, h5, h5_, h10_, h10__, h11_, h11__, h13, h13_, h15, h15_, h18, h18_, h21, h21_, h25, h25_, h29, h29_]) (by decide) (by simp) (by simp) (.inl rfl) (by simp) (by simp) ?_
                        try simp [h1, h1_, h3, h3_, h5, h5_, h10_, h10__, h11_, h11__, h13, h13_, h15, h15_, h18, h18_, h21, h21_, h25, h25_, h29, h29_]
                        repeat' apply And.intro
                        any_goals (first | exact hG662 _ (by kernel_rfl) | refine hR662 _ _ _ ?_ | omega | (unfold maxLen; omega) | (simp [h1, h1_, h3, h3_, h5, h5_, h10_, h10__, h11_, h11__, h13, h13_, h15, h15_, h18, h18_, h21, h21_, h25, h25_, h29, h29_]; done) | (simp [h1, h1_, h3, h3_, h5, h5_, h10_, h10__, h11_, h11__, h13, h13_, h15, h15_, h18, h18_, h21, h21_, h25, h25_, h29, h29_]; omega))
                        refine hK638 _ _ _ ?_
                        refine AW.wk [(0, AV.slc 6 0 1 v28.length false), (1, AV.lst false false (List.map (AV.int .i64) v1)), (2, AV.int .i64 v2), (7, AV.int .i64 v7)] [(6, .grow (List.map (AV.int .i64) v28))] 7 (by simp [h1, h1_, h3, h3_, h5, h5_, h10_, h10__, h11_, h11__, h13, h13_, h15, h15_, h18, h18_, h21, h21_, h25, h25_, h29, h29_]) (by simp [h1, h1_, h3, h3_, h5, h5_, h10_, h10__, h11_, h11__, h13, h13_, h15, h15_, h18, h18_, h21, h21_, h25, h25_, h29, h29_]) (by simp) ?_
                        refine AW.frz 6 (o := .grow (List.map (AV.int .i64) v28)) (by simp [h1, h1_, h3, h3_, h5, h5_, h10_, h10__, h11_, h11__, h13, h13_, h15, h15_, h18, h18_, h21, h21_, h25, h25_, h29, h29_]) rfl [(0, AV.lst false false (List.map (AV.int .i64) v28))] [] ⟨(.l (by simp) (by simp) (by simp) (by simp)), trivial⟩ trivial ?_
                        refine AW.wk [(0, AV.lst false false (List.map (AV.int .i64) v28)), (1, AV.lst false false (List.map (AV.int .i64) v1)), (2, AV.int .i64 v2), (7, AV.int .i64 v7)] [] 7 (by simp [h1, h1_, h3, h3_, h5, h5_, h10_, h10__, h11_, h11__, h13, h13_, h15, h15_, h18, h18_, h21, h21_, h25, h25_, h29, h29_]) (by simp [h1, h1_, h3, h3_, h5, h5_, h10_, h10__, h11_, h11__, h13, h13_, h15, h15_, h18, h18_, h21, h21_, h25, h25_, h29, h29_]) (by simp) ?_
                        refine AW.region mixed [] [none, none, none] (by kernel_rfl) fun G663 R663 hG663 hR663 => ?_
                        try simp [h1, h1_, h3, h3_, h5, h5_, h10_, h10__, h11_, h11__, h13, h13_, h15, h15_, h18, h18_, h21, h21_, h25, h25_, h29, h29_]
                        repeat' apply And.intro
                        any_goals (first | exact hG663 _ (by kernel_rfl) | refine hR663 _ _ _ ?_ | omega | (unfold maxLen; omega) | (simp [h1, h1_, h3, h3_, h5, h5_, h10_, h10__, h11_, h11__, h13, h13_, h15, h15_, h18, h18_, h21, h21_, h25, h25_, h29, h29_]; done) | (simp [h1, h1_, h3, h3_, h5, h5_, h10_, h10__, h11_, h11__, h13, h13_, h15, h15_, h18, h18_, h21, h21_, h25, h25_, h29, h29_]; omega))
                        refine hK610 _ _ _ ?_
                        refine Can.weak [(0, AV.lst false false (List.map (AV.int .i64) v28)), (1, AV.lst false false (List.map (AV.int .i64) v1)), (2, AV.int .i64 v2), (7, AV.int .i64 (IntKind.wrap .i64 (v7 + 1)))] [] 7 (by simp [h1, h1_, h3, h3_, h5, h5_, h10_, h10__, h11_, h11__, h13, h13_, h15, h15_, h18, h18_, h21, h21_, h25, h25_, h29, h29_]) (by simp [h1, h1_, h3, h3_, h5, h5_, h10_, h10__, h11_, h11__, h13, h13_, h15, h15_, h18, h18_, h21, h21_, h25, h25_, h29, h29_]) (by simp) ?_
                        refine Can.ren (m := 0) h0 [] [(0, AV.lst false false (List.map (AV.int .i64) v28)), (1, AV.lst false false (List.map (AV.int .i64) v1)), (2, AV.int .i64 v2), (7, AV.int .i64 (IntKind.wrap .i64 (v7 + 1)))] [] 0 (by decide) (by decide) (by decide) rfl (by simp [h1, h1_, h3, h3_, h5, h5_, h10_, h10__, h11_, h11__, h13, h13_, h15, h15_, h18, h18_, h21, h21_, h25, h25_, h29, h29_]) (by simp [h1, h1_, h3, h3_, h5, h5_, h10_, h10__, h11_, h11__, h13, h13_, h15, h15_, h18, h18_, h21, h21_, h25, h25_, h29, h29_]) ?_
                        exact Can.next (k' := n1) ((v28, IntKind.wrap .i64 (v7 + 1))) (by omega) hF (by simp [h1, h1_, h3, h3_, h5, h5_, h10_, h10__, h11_, h11__, h13, h13_, h15, h15_, h18, h18_, h21, h21_, h25, h25_, h29, h29_]) (by simp [h1, h1_, h3, h3_, h5, h5_, h10_, h10__, h11_, h11__, h13, h13_, h15, h15_, h18, h18_, h21, h21_, h25, h25_, h29, h29_]) (by simp)
      · replace hF := ite_f h5 hF
        have h5_ := h5
        try simp at h5_
        refine AW.condF (by decide) (by first | (simp [h1, h1_, h3, h3_, h5, h5_]; done) | (simp [h1, h1_, h3, h3_, h5, h5_]; omega)) ?_
        refine AW.exit ?_
        try simp
        refine hK502 _ _ _ ?_
        refine AW.seqR mixed [] [none, none] (by kernel_rfl) fun G664 R664 hG664 hR664 => ?_
        try simp [h1, h1_, h3, h3_, h5, h5_]
        repeat' apply And.intro
        try any_goals (first | omega | (unfold maxLen; omega) | (simp [h1, h1_, h3, h3_, h5, h5_]; done))
        obtain ⟨v29, h31, hF⟩ := bnd1_elim hF
        refine aCall_l (w_law24_awake k _ h31) (by simp) [] [] [] rfl .nil (by simp [h1, h1_, h3, h3_, h5, h5_]) (by decide) (by simp) (by simp) (.inl rfl) (by simp) (by simp) ?_
        try simp [h1, h1_, h3, h3_, h5, h5_]
        repeat' apply And.intro
        any_goals (first | exact hG664 _ (by kernel_rfl) | refine hR664 _ _ _ ?_ | omega | (unfold maxLen; omega) | (simp [h1, h1_, h3, h3_, h5, h5_]; done) | (simp [h1, h1_, h3, h3_, h5, h5_]; omega))
        refine AW.wk [(6, AV.bool v29)] [] 0 (by simp [h1, h1_, h3, h3_, h5, h5_]) (by simp [h1, h1_, h3, h3_, h5, h5_]) (by simp) ?_
        simp only [Option.some.injEq] at hF
        subst hF
        refine AW.ret (hQ _ _ _ ?_ (matchO_0 ?_)).1
        · simp [Try.f16, h1, h1_, h3, h3_, h5, h5_]
        · simp [h1, h1_, h3, h3_, h5, h5_]
end Go.TF
