/- Walks: the Go text computes the Lean functions (printed by a program of our own). -/
import Derived.Test.YtocmgnljgemjkaaPu
import Derived.Test.YtocmgnljgemjkaaAbsT
import Derived.Test.YtocmgnljgemjkaaWa0
import Derived.Test.YtocmgnljgemjkaaWD1
import Derived.Test.YtocmgnljgemjkaaWD2
set_option linter.unusedVariables false
set_option linter.unusedSimpArgs false
set_option maxRecDepth 100000
namespace Go.TF
open Go Go.Abs Go.Proofs Go.Proofs.YtocmgnljgemjkaaT
set_option maxHeartbeats 4000000 in
theorem w_committee_Enough (k : Nat) (v0 : Int) (v1 : Int) (v2 : Bool) (hF : committee_Enough k v0 v1 = some v2) :
    FCall Try.prog 58 [AV.int .i64 v0, AV.int .i64 v1] [] (AV.bool v2) [] := by
  unfold committee_Enough at hF
  refine FCall.enter Try.func58 rfl (by simp) (by decide) (by simp) (by simp) (by simp) (by simp) (by simp) ?_
  intro c0 w0 Q h0 hQ
  refine AW.wk [(0, AV.int .i64 v0), (1, AV.int .i64 v1)] [] 0 (by simp) (by simp) (by simp) ?_
  refine AW.seqR mixed [] [none] (by kernel_rfl) fun G3 R3 hG3 hR3 => ?_
  try simp
  repeat' apply And.intro
  any_goals (first | exact hG3 _ (by kernel_rfl) | refine hR3 _ _ _ ?_ | omega | (unfold maxLen; omega) | (simp; done) | (simp; omega))
  refine AW.wk [(0, AV.int .i64 v0), (1, AV.int .i64 v1)] [] 0 (by simp) (by simp) (by simp) ?_
  refine AW.seqR mixed [] [none, none, none, some (7, true), some (7, true), none, none, some (11, true), some (11, true), none, none, some (15, true), some (15, true), some (15, true), none, none, some (20, true), some (20, true), some (20, true), some (20, true), some (20, true), none, none] (by kernel_rfl) fun G4 R4 hG4 hR4 => ?_
  by_cases h1 : 1 ≤ v1
  · replace hF := ite_t h1 hF
    have h1_ := h1
    try simp at h1_
    by_cases h2 : v1 ≤ 9
    · replace hF := ite_t h2 hF
      have h2_ := h2
      try simp at h2_
      by_cases h3 : 0 ≤ v0
      · replace hF := ite_t h3 hF
        have h3_ := h3
        try simp at h3_
        by_cases h4 : v0 ≤ v1
        · replace hF := ite_t h4 hF
          have h4_ := h4
          try simp at h4_
          try simp [h1, h1_, h2, h2_, h3, h3_, h4, h4_]
          repeat' apply And.intro
          any_goals (first | exact hG4 _ (by kernel_rfl) | refine hR4 _ _ _ ?_ | omega | (unfold maxLen; omega) | (simp [h1, h1_, h2, h2_, h3, h3_, h4, h4_]; done) | (simp [h1, h1_, h2, h2_, h3, h3_, h4, h4_]; omega))
          refine AW.wk [(4, AV.bool (decide (IntKind.wrap .i64 (3 * v1) < IntKind.wrap .i64 (4 * v0))))] [] 0 (by simp [h1, h1_, h2, h2_, h3, h3_, h4, h4_]) (by simp [h1, h1_, h2, h2_, h3, h3_, h4, h4_]) (by simp) ?_
          simp only [Option.some.injEq] at hF
          subst hF
          refine AW.ret (hQ _ _ _ ?_ (matchO_0 ?_)).1
          · simp [Try.f58, h1, h1_, h2, h2_, h3, h3_, h4, h4_]
          · simp [h1, h1_, h2, h2_, h3, h3_, h4, h4_]
        · replace hF := ite_f h4 hF
          have h4_ := h4
          try simp at h4_
          try simp [h1, h1_, h2, h2_, h3, h3_, h4, h4_]
          repeat' apply And.intro
          any_goals (first | exact hG4 _ (by kernel_rfl) | refine hR4 _ _ _ ?_ | omega | (unfold maxLen; omega) | (simp [h1, h1_, h2, h2_, h3, h3_, h4, h4_]; done) | (simp [h1, h1_, h2, h2_, h3, h3_, h4, h4_]; omega))
          refine AW.wk [(4, AV.bool false)] [] 0 (by simp [h1, h1_, h2, h2_, h3, h3_, h4, h4_]) (by simp [h1, h1_, h2, h2_, h3, h3_, h4, h4_]) (by simp) ?_
          simp only [Option.some.injEq] at hF
          subst hF
          refine AW.ret (hQ _ _ _ ?_ (matchO_0 ?_)).1
          · simp [Try.f58, h1, h1_, h2, h2_, h3, h3_, h4, h4_]
          · simp [h1, h1_, h2, h2_, h3, h3_, h4, h4_]
      · replace hF := ite_f h3 hF
        have h3_ := h3
        try simp at h3_
        try simp [h1, h1_, h2, h2_, h3, h3_]
        repeat' apply And.intro
        any_goals (first | exact hG4 _ (by kernel_rfl) | refine hR4 _ _ _ ?_ | omega | (unfold maxLen; omega) | (simp [h1, h1_, h2, h2_, h3, h3_]; done) | (simp [h1, h1_, h2, h2_, h3, h3_]; omega))
        refine AW.wk [(4, AV.bool false)] [] 0 (by simp [h1, h1_, h2, h2_, h3, h3_]) (by simp [h1, h1_, h2, h2_, h3, h3_]) (by simp) ?_
        simp only [Option.some.injEq] at hF
        subst hF
        refine AW.ret (hQ _ _ _ ?_ (matchO_0 ?_)).1
        · simp [Try.f58, h1, h1_, h2, h2_, h3, h3_]
        · simp [h1, h1_, h2, h2_, h3, h3_]
    · replace hF := ite_f h2 hF
      have h2_ := h2
      try simp at h2_
      try simp [h1, h1_, h2, h2_]
      repeat' apply And.intro
      any_goals (first | exact hG4 _ (by kernel_rfl) | refine hR4 _ _ _ ?_ | omega | (unfold maxLen; omega) | (simp [h1, h1_, h2, h2_]; done) | (simp [h1, h1_, h2, h2_]; omega))
      refine AW.wk [(4, AV.bool false)] [] 0 (by simp [h1, h1_, h2, h2_]) (by simp [h1, h1_, h2, h2_]) (by simp) ?_
      simp only [Option.some.injEq] at hF
      subst hF
      refine AW.ret (hQ _ _ _ ?_ (matchO_0 ?_)).1
      · simp [Try.f58, h1, h1_, h2, h2_]
      · simp [h1, h1_, h2, h2_]
  · replace hF := ite_f h1 hF
    have h1_ := h1
    try simp at h1_
    try simp [h1, h1_]
    repeat' apply And.intro
    any_goals (first | exact hG4 _ (by kernel_rfl) | refine hR4 _ _ _ ?_ | omega | (unfold maxLen; omega) | (simp [h1, h1_]; done) | (simp [h1, h1_]; omega))
    refine AW.wk [(4, AV.bool false)] [] 0 (by simp [h1, h1_]) (by simp [h1, h1_]) (by simp) ?_
    simp only [Option.some.injEq] at hF
    subst hF
    refine AW.ret (hQ _ _ _ ?_ (matchO_0 ?_)).1
    · simp [Try.f58, h1, h1_]
    · simp [h1, h1_]
set_option maxHeartbeats 4000000 in
theorem w_ref26_Enough (k : Nat) (v0 : Int) (v1 : Int) (v2 : Bool) (hF : ref26_Enough k v0 v1 = some v2) :
    FCall Try.prog 59 [AV.int .i64 v0, AV.int .i64 v1] [] (AV.bool v2) [] := by
  unfold ref26_Enough at hF
  refine FCall.enter Try.func59 rfl (by simp) (by decide) (by simp) (by simp) (by simp) (by simp) (by simp) ?_
  intro c0 w0 Q h0 hQ
  refine AW.wk [(0, AV.int .i64 v0), (1, AV.int .i64 v1)] [] 0 (by simp) (by simp) (by simp) ?_
  refine AW.seqR mixed [] [none] (by kernel_rfl) fun G3 R3 hG3 hR3 => ?_
  try simp
  repeat' apply And.intro
  any_goals (first | exact hG3 _ (by kernel_rfl) | refine hR3 _ _ _ ?_ | omega | (unfold maxLen; omega) | (simp; done) | (simp; omega))
  refine AW.wk [(0, AV.int .i64 v0), (1, AV.int .i64 v1)] [] 0 (by simp) (by simp) (by simp) ?_
  refine AW.seqR mixed [] [none, none, none, some (7, true), some (7, true), none, none, some (11, true), some (11, true), none, none, some (15, true), some (15, true), some (15, true), none, none, some (20, true), some (20, true), some (20, true), some (20, true), some (20, true), none, none] (by kernel_rfl) fun G4 R4 hG4 hR4 => ?_
  by_cases h1 : 1 ≤ v1
  · replace hF := ite_t h1 hF
    have h1_ := h1
    try simp at h1_
    by_cases h2 : v1 ≤ 9
    · replace hF := ite_t h2 hF
      have h2_ := h2
      try simp at h2_
      by_cases h3 : 0 ≤ v0
      · replace hF := ite_t h3 hF
        have h3_ := h3
        try simp at h3_
        by_cases h4 : v0 ≤ v1
        · replace hF := ite_t h4 hF
          have h4_ := h4
          try simp at h4_
          try simp [h1, h1_, h2, h2_, h3, h3_, h4, h4_]
          repeat' apply And.intro
          any_goals (first | exact hG4 _ (by kernel_rfl) | refine hR4 _ _ _ ?_ | omega | (unfold maxLen; omega) | (simp [h1, h1_, h2, h2_, h3, h3_, h4, h4_]; done) | (simp [h1, h1_, h2, h2_, h3, h3_, h4, h4_]; omega))
          refine AW.wk [(4, AV.bool (decide (IntKind.wrap .i64 (3 * v1) < IntKind.wrap .i64 (4 * v0))))] [] 0 (by simp [h1, h1_, h2, h2_, h3, h3_, h4, h4_]) (by simp [h1, h1_, h2, h2_, h3, h3_, h4, h4_]) (by simp) ?_
          simp only [Option.some.injEq] at hF
          subst hF
          refine AW.ret (hQ _ _ _ ?_ (matchO_0 ?_)).1
          · simp [Try.f59, h1, h1_, h2, h2_, h3, h3_, h4, h4_]
          · simp [h1, h1_, h2, h2_, h3, h3_, h4, h4_]
        · replace hF := ite_f h4 hF
          have h4_ := h4
          try simp at h4_
          try simp [h1, h1_, h2, h2_, h3, h3_, h4, h4_]
          repeat' apply And.intro
          any_goals (first | exact hG4 _ (by kernel_rfl) | refine hR4 _ _ _ ?_ | omega | (unfold maxLen; omega) | (simp [h1, h1_, h2, h2_, h3, h3_, h4, h4_]; done) | (simp [h1, h1_, h2, h2_, h3, h3_, h4, h4_]; omega))
          refine AW.wk [(4, AV.bool false)] [] 0 (by simp [h1, h1_, h2, h2_, h3, h3_, h4, h4_]) (by simp [h1, h1_, h2, h2_, h3, h3_, h4, h4_]) (by simp) ?_
          simp only [Option.some.injEq] at hF
          subst hF
          refine AW.ret (hQ _ _ _ ?_ (matchO_0 ?_)).1
          · simp [Try.f59, h1, h1_, h2, h2_, h3, h3_, h4, h4_]
          · simp [h1, h1_, h2, h2_, h3, h3_, h4, h4_]
      · replace hF := ite_f h3 hF
        have h3_ := h3
        try simp at h3_
        try simp [h1, h1_, h2, h2_, h3, h3_]
        repeat' apply And.intro
        any_goals (first | exact hG4 _ (by kernel_rfl) | refine hR4 _ _ _ ?_ | omega | (unfold maxLen; omega) | (simp [h1, h1_, h2, h2_, h3, h3_]; done) | (simp [h1, h1_, h2, h2_, h3, h3_]; omega))
        refine AW.wk [(4, AV.bool false)] [] 0 (by simp [h1, h1_, h2, h2_, h3, h3_]) (by simp [h1, h1_, h2, h2_, h3, h3_]) (by simp) ?_
        simp only [Option.some.injEq] at hF
        subst hF
        refine AW.ret (hQ _ _ _ ?_ (matchO_0 ?_)).1
        · simp [Try.f59, h1, h1_, h2, h2_, h3, h3_]
        · simp [h1, h1_, h2, h2_, h3, h3_]
    · replace hF := ite_f h2 hF
      have h2_ := h2
      try simp at h2_
      try simp [h1, h1_, h2, h2_]
      repeat' apply And.intro
      any_goals (first | exact hG4 _ (by kernel_rfl) | refine hR4 _ _ _ ?_ | omega | (unfold maxLen; omega) | (simp [h1, h1_, h2, h2_]; done) | (simp [h1, h1_, h2, h2_]; omega))
      refine AW.wk [(4, AV.bool false)] [] 0 (by simp [h1, h1_, h2, h2_]) (by simp [h1, h1_, h2, h2_]) (by simp) ?_
      simp only [Option.some.injEq] at hF
      subst hF
      refine AW.ret (hQ _ _ _ ?_ (matchO_0 ?_)).1
      · simp [Try.f59, h1, h1_, h2, h2_]
      · simp [h1, h1_, h2, h2_]
  · replace hF := ite_f h1 hF
    have h1_ := h1
    try simp at h1_
    try simp [h1, h1_]
    repeat' apply And.intro
    any_goals (first | exact hG4 _ (by kernel_rfl) | refine hR4 _ _ _ ?_ | omega | (unfold maxLen; omega) | (simp [h1, h1_]; done) | (simp [h1, h1_]; omega))
    refine AW.wk [(4, AV.bool false)] [] 0 (by simp [h1, h1_]) (by simp [h1, h1_]) (by simp) ?_
    simp only [Option.some.injEq] at hF
    subst hF
    refine AW.ret (hQ _ _ _ ?_ (matchO_0 ?_)).1
    · simp [Try.f59, h1, h1_]
    · simp [h1, h1_]
set_option maxHeartbeats 4000000 in
theorem w_ref26_Quorum (k : Nat) (v0 : Int) (v1 : Int) (hF : ref26_Quorum k v0 = some v1) :
    FCall Try.prog 61 [AV.int .i64 v0] [] (AV.int .i64 v1) [] := by
  unfold ref26_Quorum at hF
  refine FCall.enter Try.func61 rfl (by simp) (by decide) (by simp) (by simp) (by simp) (by simp) (by simp) ?_
  intro c0 w0 Q h0 hQ
  refine AW.wk [(0, AV.int .i64 v0)] [] 0 (by simp) (by simp) (by simp) ?_
  refine AW.seqR mixed [] [none] (by kernel_rfl) fun G62 R62 hG62 hR62 => ?_
  try simp
  repeat' apply And.intro
  any_goals (first | exact hG62 _ (by kernel_rfl) | refine hR62 _ _ _ ?_ | omega | (unfold maxLen; omega) | (simp; done) | (simp; omega))
  refine AW.wk [(0, AV.int .i64 v0)] [] 0 (by simp) (by simp) (by simp) ?_
  refine AW.midF (α := Unit) (fun _ => ref26_Quorum.J1 k = some v1) (fun _ => []) (fun _ => []) 0 (fun K93 hK93 => ?_) ?_
  · refine AW.seqR mixed [] [none] (by kernel_rfl) fun G94 R94 hG94 hR94 => ?_
    try simp
    repeat' apply And.intro
    any_goals (first | exact hG94 _ (by kernel_rfl) | refine hR94 _ _ _ ?_ | omega | (unfold maxLen; omega) | (simp; done) | (simp; omega))
    refine AW.wk [(0, AV.int .i64 v0), (3, AV.int .i64 1)] [] 0 (by simp) (by simp) (by simp) ?_
    refine AW.block ?_
    refine AW.loopF (α := Int) (fun n v2 => ref26_Quorum.L2 k v0 n v2 = some v1) (fun v2 => [(0, AV.int .i64 v0), (3, AV.int .i64 v2)]) (fun v2 => []) 0 k (1) hF (by simp) (by simp) (by simp) ?_
    rintro (_|n2) v2 hF K113 hK113
    · try dsimp only at hF
      rw [ref26_Quorum.L2] at hF; cases hF
    try dsimp only at hF
    rw [ref26_Quorum.L2] at hF
    refine AW.seq fun K115 hK115 => ?_
    refine AW.seqR mixed [] [none, none, none, none, some (7, true), some (7, true), none] (by kernel_rfl) fun G116 R116 hG116 hR116 => ?_
    by_cases h1 : v2 ≤ v0
    · replace hF := ite_t h1 hF
      have h1_ := h1
      try simp at h1_
      try simp [h1, h1_]
      repeat' apply And.intro
      any_goals (first | exact hG116 _ (by kernel_rfl) | refine hR116 _ _ _ ?_ | omega | (unfold maxLen; omega) | (simp [h1, h1_]; done) | (simp [h1, h1_]; omega))
      refine AW.wk [(0, AV.int .i64 v0), (3, AV.int .i64 v2), (10, AV.bool (decide (v0 ≤ 9)))] [] 0 (by simp [h1, h1_]) (by simp [h1, h1_]) (by simp) ?_
      by_cases h2 : v0 ≤ 9
      · replace hF := ite_t h2 hF
        have h2_ := h2
        try simp at h2_
        refine AW.condT (by decide) (by first | (simp [h1, h1_, h2, h2_]; done) | (simp [h1, h1_, h2, h2_]; omega)) ?_
        refine AW.skip ?_
        refine hK115 _ _ _ ?_
        refine AW.seq fun K119 hK119 => ?_
        refine AW.block ?_
        refine AW.seqR mixed [] [none, none, none] (by kernel_rfl) fun G120 R120 hG120 hR120 => ?_
        try simp [h1, h1_, h2, h2_]
        repeat' apply And.intro
        try any_goals (first | omega | (unfold maxLen; omega) | (simp [h1, h1_, h2, h2_]; done))
        obtain ⟨v3, h3, hF⟩ := bnd1_elim hF
        refine aCall_l (w_ref26_Enough k _ _ _ h3) (by simp) [] [] [] rfl (.cons (.same (by simp [h1, h1_, h2, h2_])) (.cons (.same (by simp [h1, h1_, h2, h2_])) .nil)) (by simp [h1, h1_, h2, h2_]) (by decide) (by simp) (by simp) (.inl rfl) (by simp) (by simp) ?_
        try simp [h1, h1_, h2, h2_]
        repeat' apply And.intro
        any_goals (first | exact hG120 _ (by kernel_rfl) | refine hR120 _ _ _ ?_ | omega | (unfold maxLen; omega) | (simp [h1, h1_, h2, h2_]; done) | (simp [h1, h1_, h2, h2_]; omega))
        refine AW.wk [(0, AV.int .i64 v0), (3, AV.int .i64 v2), (15, AV.bool v3)] [] 0 (by simp [h1, h1_, h2, h2_]) (by simp [h1, h1_, h2, h2_]) (by simp) ?_
        by_cases h4 : v3 = true
        · replace hF := ite_t h4 hF
          have h4_ := h4
          try simp at h4_
          refine AW.condT (by decide) (by first | (simp [h1, h1_, h2, h2_, h4, h4_]; done) | (simp [h1, h1_, h2, h2_, h4, h4_]; omega)) ?_
          refine AW.seqR mixed [] [none, none] (by kernel_rfl) fun G121 R121 hG121 hR121 => ?_
          try simp [h1, h1_, h2, h2_, h4, h4_]
          repeat' apply And.intro
          any_goals (first | exact hG121 _ (by kernel_rfl) | refine hR121 _ _ _ ?_ | omega | (unfold maxLen; omega) | (simp [h1, h1_, h2, h2_, h4, h4_]; done) | (simp [h1, h1_, h2, h2_, h4, h4_]; omega))
          refine AW.wk [(2, AV.int .i64 v2)] [] 0 (by simp [h1, h1_, h2, h2_, h4, h4_]) (by simp [h1, h1_, h2, h2_, h4, h4_]) (by simp) ?_
          simp only [Option.some.injEq] at hF
          subst hF
          refine AW.ret (hQ _ _ _ ?_ (matchO_0 ?_)).1
          · simp [Try.f61, h1, h1_, h2, h2_, h4, h4_]
          · simp [h1, h1_, h2, h2_, h4, h4_]
        · replace hF := ite_f h4 hF
          have h4_ := h4
          try simp at h4_
          refine AW.condF (by decide) (by first | (simp [h1, h1_, h2, h2_, h4, h4_]; done) | (simp [h1, h1_, h2, h2_, h4, h4_]; omega)) ?_
          refine AW.skip ?_
          refine hK119 _ _ _ ?_
          refine AW.region mixed [] [none, none, none] (by kernel_rfl) fun G122 R122 hG122 hR122 => ?_
          try simp [h1, h1_, h2, h2_, h4, h4_]
          repeat' apply And.intro
          any_goals (first | exact hG122 _ (by kernel_rfl) | refine hR122 _ _ _ ?_ | omega | (unfold maxLen; omega) | (simp [h1, h1_, h2, h2_, h4, h4_]; done) | (simp [h1, h1_, h2, h2_, h4, h4_]; omega))
          refine hK113 _ _ _ ?_
          refine Can.weak [(0, AV.int .i64 v0), (3, AV.int .i64 (IntKind.wrap .i64 (v2 + 1)))] [] 0 (by simp [h1, h1_, h2, h2_, h4, h4_]) (by simp [h1, h1_, h2, h2_, h4, h4_]) (by simp) ?_
          exact Can.next (k' := n2) (IntKind.wrap .i64 (v2 + 1)) (by omega) hF (by simp [h1, h1_, h2, h2_, h4, h4_]) (by simp [h1, h1_, h2, h2_, h4, h4_]) (by simp)
      · replace hF := ite_f h2 hF
        have h2_ := h2
        try simp at h2_
        refine AW.condF (by decide) (by first | (simp [h1, h1_, h2, h2_]; done) | (simp [h1, h1_, h2, h2_]; omega)) ?_
        refine AW.exit ?_
        try simp
        refine hK93 _ _ _ ?_
        exact Can.join (()) hF (by simp [h1, h1_, h2, h2_]) (by simp [h1, h1_, h2, h2_]) (by simp)
    · replace hF := ite_f h1 hF
      have h1_ := h1
      try simp at h1_
      try simp [h1, h1_]
      repeat' apply And.intro
      any_goals (first | exact hG116 _ (by kernel_rfl) | refine hR116 _ _ _ ?_ | omega | (unfold maxLen; omega) | (simp [h1, h1_]; done) | (simp [h1, h1_]; omega))
      refine AW.wk [(0, AV.int .i64 v0), (3, AV.int .i64 v2), (10, AV.bool false)] [] 0 (by simp [h1, h1_]) (by simp [h1, h1_]) (by simp) ?_
      refine AW.condF (by decide) (by simp [h1, h1_]) ?_
      refine AW.exit ?_
      try simp
      refine hK93 _ _ _ ?_
      exact Can.join (()) hF (by simp [h1, h1_]) (by simp [h1, h1_]) (by simp)
  · rintro ⟨⟩ hF
    try dsimp only at hF
    unfold ref26_Quorum.J1 at hF
    refine AW.seqR mixed [] [none] (by kernel_rfl) fun G92 R92 hG92 hR92 => ?_
    try simp
    repeat' apply And.intro
    any_goals (first | exact hG92 _ (by kernel_rfl) | refine hR92 _ _ _ ?_ | omega | (unfold maxLen; omega) | (simp; done) | (simp; omega))
    refine AW.wk [(2, AV.int .i64 0)] [] 0 (by simp) (by simp) (by simp) ?_
    simp only [Option.some.injEq] at hF
    subst hF
    refine AW.ret (hQ _ _ _ ?_ (matchO_0 ?_)).1
    · simp [Try.f61]
    · simp
set_option maxHeartbeats 4000000 in
theorem w_mill_Mod (k : Nat) (v0 : Int) (v1 : Int) (v2 : Int) (hF : mill_Mod k v0 v1 = some v2) :
    FCall Try.prog 62 [AV.int .i64 v0, AV.int .i64 v1] [] (AV.int .i64 v2) [] := by
  unfold mill_Mod at hF
  refine FCall.enter Try.func62 rfl (by simp) (by decide) (by simp) (by simp) (by simp) (by simp) (by simp) ?_
  intro c0 w0 Q h0 hQ
  refine AW.wk [(0, AV.int .i64 v0), (1, AV.int .i64 v1)] [] 0 (by simp) (by simp) (by simp) ?_
  refine AW.seqR mixed [] [none] (by kernel_rfl) fun G3 R3 hG3 hR3 => ?_
  try simp
  repeat' apply And.intro
  any_goals (first | exact hG3 _ (by kernel_rfl) | refine hR3 _ _ _ ?_ | omega | (unfold maxLen; omega) | (simp; done) | (simp; omega))
  refine AW.wk [(0, AV.int .i64 v0), (1, AV.int .i64 v1)] [] 0 (by simp) (by simp) (by simp) ?_
  refine AW.seqR mixed [] [none, none, none, none] (by kernel_rfl) fun G4 R4 hG4 hR4 => ?_
  try simp
  repeat' apply And.intro
  try any_goals (first | omega | (unfold maxLen; omega) | (simp; done))
  obtain ⟨v3, h1, hF⟩ := bnd1_elim hF
  refine aCall_l (w_made_Mod k _ _ _ h1) (by simp) [] [] [] rfl (.cons (.same (by simp)) (.cons (.same (by simp)) .nil)) (by simp) (by decide) (by simp) (by simp) (.inl rfl) (by simp) (by simp) ?_
  try simp
  repeat' apply And.intro
  any_goals (first | exact hG4 _ (by kernel_rfl) | refine hR4 _ _ _ ?_ | omega | (unfold maxLen; omega) | (simp; done) | (simp; omega))
  refine AW.wk [(4, AV.int .i64 v3)] [] 0 (by simp) (by simp) (by simp) ?_
  simp only [Option.some.injEq] at hF
  subst hF
  refine AW.ret (hQ _ _ _ ?_ (matchO_0 ?_)).1
  · simp [Try.f62]
  · simp
set_option maxHeartbeats 4000000 in
theorem w_law26_CommitteeDraws (k : Nat) (v0 : (List Int)) (v1 : (List Int)) (v2 : Int) (v3 : Int) (v4 : Bool) (hF : law26_CommitteeDraws k v0 v1 v2 v3 = some v4) :
    FCall Try.prog 12 [AV.lst false false (List.map (AV.int .i64) v0), AV.lst false false (List.map (AV.int .i64) v1), AV.int .i64 v2, AV.int .i64 v3] [] (AV.bool v4) [] := by
  unfold law26_CommitteeDraws at hF
  refine FCall.enter Try.func12 rfl (by simp) (by decide) (by simp) (by simp) (by simp) (by simp) (by simp) ?_
  intro c0 w0 Q h0 hQ
  refine AW.wk [(0, AV.lst false false (List.map (AV.int .i64) v0)), (1, AV.lst false false (List.map (AV.int .i64) v1)), (2, AV.int .i64 v2), (3, AV.int .i64 v3)] [] 0 (by simp) (by simp) (by simp) ?_
  refine AW.seqR mixed [] [none] (by kernel_rfl) fun G513 R513 hG513 hR513 => ?_
  try simp
  repeat' apply And.intro
  any_goals (first | exact hG513 _ (by kernel_rfl) | refine hR513 _ _ _ ?_ | omega | (unfold maxLen; omega) | (simp; done) | (simp; omega))
  refine AW.wk [(0, AV.lst false false (List.map (AV.int .i64) v0)), (1, AV.lst false false (List.map (AV.int .i64) v1)), (2, AV.int .i64 v2), (3, AV.int .i64 v3)] [] 0 (by simp) (by simp) (by simp) ?_
  refine AW.seq fun K517 hK517 => ?_
  refine AW.seqR mixed [] [none, none, none, none, some (18, false), some (18, false), some (18, false), none] (by kernel_rfl) fun G518 R518 hG518 hR518 => ?_
  by_cases h1 : 200 < (v0.length : Int)
  · replace hF := ite_t h1 hF
    have h1_ := h1
    try simp at h1_
    try simp [h1, h1_]
    repeat' apply And.intro
    any_goals (first | exact hG518 _ (by kernel_rfl) | refine hR518 _ _ _ ?_ | omega | (unfold maxLen; omega) | (simp [h1, h1_]; done) | (simp [h1, h1_]; omega))
    refine AW.wk [(0, AV.lst false false (List.map (AV.int .i64) v0)), (1, AV.lst false false (List.map (AV.int .i64) v1)), (2, AV.int .i64 v2), (3, AV.int .i64 v3), (22, AV.bool true)] [] 0 (by simp [h1, h1_]) (by simp [h1, h1_]) (by simp) ?_
    refine AW.condT (by decide) (by simp [h1, h1_]) ?_
    refine AW.seqR mixed [] [none, none] (by kernel_rfl) fun G519 R519 hG519 hR519 => ?_
    try simp [h1, h1_]
    repeat' apply And.intro
    try any_goals (first | omega | (unfold maxLen; omega) | (simp [h1, h1_]; done))
    obtain ⟨v5, h2, hF⟩ := bnd1_elim hF
    refine aCall_l (w_law26_awake k _ h2) (by simp) [] [] [] rfl .nil (by simp [h1, h1_]) (by decide) (by simp) (by simp) (.inl rfl) (by simp) (by simp) ?_
    try simp [h1, h1_]
    repeat' apply And.intro
    any_goals (first | exact hG519 _ (by kernel_rfl) | refine hR519 _ _ _ ?_ | omega | (unfold maxLen; omega) | (simp [h1, h1_]; done) | (simp [h1, h1_]; omega))
    refine AW.wk [(8, AV.bool v5)] [] 0 (by simp [h1, h1_]) (by simp [h1, h1_]) (by simp) ?_
    simp only [Option.some.injEq] at hF
    subst hF
    refine AW.ret (hQ _ _ _ ?_ (matchO_0 ?_)).1
    · simp [Try.f12, h1, h1_]
    · simp [h1, h1_]
  · replace hF := ite_f h1 hF
    have h1_ := h1
    try simp at h1_
    try simp [h1, h1_]
    repeat' apply And.intro
    any_goals (first | exact hG518 _ (by kernel_rfl) | refine hR518 _ _ _ ?_ | omega | (unfold maxLen; omega) | (simp [h1, h1_]; done) | (simp [h1, h1_]; omega))
    refine AW.wk [(0, AV.lst false false (List.map (AV.int .i64) v0)), (1, AV.lst false false (List.map (AV.int .i64) v1)), (2, AV.int .i64 v2), (3, AV.int .i64 v3), (22, AV.bool (decide (100 < (v1.length : Int))))] [] 0 (by simp [h1, h1_]) (by simp [h1, h1_]) (by simp) ?_
    by_cases h3 : 100 < (v1.length : Int)
    · replace hF := ite_t h3 hF
      have h3_ := h3
      try simp at h3_
      refine AW.condT (by decide) (by first | (simp [h1, h1_, h3, h3_]; done) | (simp [h1, h1_, h3, h3_]; omega)) ?_
      refine AW.seqR mixed [] [none, none] (by kernel_rfl) fun G520 R520 hG520 hR520 => ?_
      try simp [h1, h1_, h3, h3_]
      repeat' apply And.intro
      try any_goals (first | omega | (unfold maxLen; omega) | (simp [h1, h1_, h3, h3_]; done))
      obtain ⟨v6, h4, hF⟩ := bnd1_elim hF
      refine aCall_l (w_law26_awake k _ h4) (by simp) [] [] [] rfl .nil (by simp [h1, h1_, h3, h3_]) (by decide) (by simp) (by simp) (.inl rfl) (by simp) (by simp) ?_
      try simp [h1, h1_, h3, h3_]
      repeat' apply And.intro
      any_goals (first | exact hG520 _ (by kernel_rfl) | refine hR520 _ _ _ ?_ | omega | (unfold maxLen; omega) | (simp [h1, h1_, h3, h3_]; done) | (simp [h1, h1_, h3, h3_]; omega))
      refine AW.wk [(8, AV.bool v6)] [] 0 (by simp [h1, h1_, h3, h3_]) (by simp [h1, h1_, h3, h3_]) (by simp) ?_
      simp only [Option.some.injEq] at hF
      subst hF
      refine AW.ret (hQ _ _ _ ?_ (matchO_0 ?_)).1
      · simp [Try.f12, h1, h1_, h3, h3_]
      · simp [h1, h1_, h3, h3_]
    · replace hF := ite_f h3 hF
      have h3_ := h3
      try simp at h3_
      refine AW.condF (by decide) (by first | (simp [h1, h1_, h3, h3_]; done) | (simp [h1, h1_, h3, h3_]; omega)) ?_
      refine AW.skip ?_
      refine hK517 _ _ _ ?_
      refine AW.seq fun K772 hK772 => ?_
      refine AW.seqR mixed [] [none] (by kernel_rfl) fun G773 R773 hG773 hR773 => ?_
      try simp [h1, h1_, h3, h3_]
      repeat' apply And.intro
      any_goals (first | exact hG773 _ (by kernel_rfl) | refine hR773 _ _ _ ?_ | omega | (unfold maxLen; omega) | (simp [h1, h1_, h3, h3_]; done) | (simp [h1, h1_, h3, h3_]; omega))
      refine AW.wk [(0, AV.lst false false (List.map (AV.int .i64) v0)), (1, AV.lst false false (List.map (AV.int .i64) v1)), (2, AV.int .i64 v2), (3, AV.int .i64 v3), (9, AV.int .i64 0)] [] 0 (by simp [h1, h1_, h3, h3_]) (by simp [h1, h1_, h3, h3_]) (by simp) ?_
      refine AW.block ?_
      refine AW.loopF (α := ((List Int) × (List Int) × Int × Int × Int)) (fun n (v7, v8, v9, v10, v11) => law26_CommitteeDraws.L1 k n v7 v8 v9 v10 v11 = some v4) (fun (v7, v8, v9, v10, v11) => [(0, AV.lst false false (List.map (AV.int .i64) v7)), (1, AV.lst false false (List.map (AV.int .i64) v8)), (2, AV.int .i64 v9), (3, AV.int .i64 v10), (9, AV.int .i64 v11)]) (fun (v7, v8, v9, v10, v11) => []) 0 k ((v0, v1, v2, v3, 0)) hF (by simp [h1, h1_, h3, h3_]) (by simp [h1, h1_, h3, h3_]) (by simp) ?_
      rintro (_|n1) ⟨v7, v8, v9, v10, v11⟩ hF K940 hK940
      · try dsimp only at hF
        rw [law26_CommitteeDraws.L1] at hF; cases hF
      try dsimp only at hF
      rw [law26_CommitteeDraws.L1] at hF
      refine AW.seq fun K942 hK942 => ?_
      refine AW.seqR mixed [] [none, none] (by kernel_rfl) fun G943 R943 hG943 hR943 => ?_
      try simp [h1, h1_, h3, h3_]
      repeat' apply And.intro
      any_goals (first | exact hG943 _ (by kernel_rfl) | refine hR943 _ _ _ ?_ | omega | (unfold maxLen; omega) | (simp [h1, h1_, h3, h3_]; done) | (simp [h1, h1_, h3, h3_]; omega))
      refine AW.wk [(0, AV.lst false false (List.map (AV.int .i64) v7)), (1, AV.lst false false (List.map (AV.int .i64) v8)), (2, AV.int .i64 v9), (3, AV.int .i64 v10), (9, AV.int .i64 v11), (25, AV.bool (decide (v11 < 2)))] [] 0 (by simp [h1, h1_, h3, h3_]) (by simp [h1, h1_, h3, h3_]) (by simp) ?_
      by_cases h5 : v11 < 2
      · replace hF := ite_t h5 hF
        have h5_ := h5
        try simp at h5_
        refine AW.condT (by decide) (by first | (simp [h1, h1_, h3, h3_, h5, h5_]; done) | (simp [h1, h1_, h3, h3_, h5, h5_]; omega)) ?_
        refine AW.skip ?_
        refine hK942 _ _ _ ?_
        refine AW.seq fun K983 hK983 => ?_
        refine AW.block ?_
        refine AW.seqR mixed [] [none, none, none, none, none, none, none, none, none] (by kernel_rfl) fun G984 R984 hG984 hR984 => ?_
        try simp [h1, h1_, h3, h3_, h5, h5_]
        repeat' apply And.intro
        try any_goals (first | omega | (unfold maxLen; omega) | (simp [h1, h1_, h3, h3_, h5, h5_]; done))
        obtain ⟨v12, v13, h6, hF⟩ := bnd2_elim hF
        refine aCall_l (w_committee_Draw k _ _ _ _ _ h6) (by simp) [] [] [] rfl (.cons (.same (by simp [h1, h1_, h3, h3_, h5, h5_])) (.cons (.same (by simp [h1, h1_, h3, h3_, h5, h5_])) (.cons (.same (by simp [h1, h1_, h3, h3_, h5, h5_])) .nil))) (by simp [h1, h1_, h3, h3_, h5, h5_]) (by decide) (by simp) (by simp) (.inl rfl) (by simp) (by simp) ?_
        try simp [h1, h1_, h3, h3_, h5, h5_]
        repeat' apply And.intro
        any_goals (first | exact hG984 _ (by kernel_rfl) | refine hR984 _ _ _ ?_ | omega | (unfold maxLen; omega) | (simp [h1, h1_, h3, h3_, h5, h5_]; done) | (simp [h1, h1_, h3, h3_, h5, h5_]; omega))
        refine AW.wk [(0, AV.lst false false (List.map (AV.int .i64) v7)), (1, AV.lst false false (List.map (AV.int .i64) v8)), (2, AV.int .i64 v9), (3, AV.int .i64 v10), (9, AV.int .i64 v11), (10, AV.slc 0 0 1 v12.length false), (11, AV.int .i64 v13)] [(0, .grow (List.map (AV.int .i64) v12))] 1 (by simp [h1, h1_, h3, h3_, h5, h5_]) (by simp [h1, h1_, h3, h3_, h5, h5_]) (by simp) ?_
        refine AW.frz 0 (o := .grow (List.map (AV.int .i64) v12)) (by simp [h1, h1_, h3, h3_, h5, h5_]) rfl [(10, AV.lst false false (List.map (AV.int .i64) v12))] [] ⟨(.l (by simp) (by simp) (by simp) (by simp)), trivial⟩ trivial ?_
        refine AW.wk [(0, AV.lst false false (List.map (AV.int .i64) v7)), (1, AV.lst false false (List.map (AV.int .i64) v8)), (2, AV.int .i64 v9), (3, AV.int .i64 v10), (9, AV.int .i64 v11), (10, AV.lst false false (List.map (AV.int .i64) v12)), (11, AV.int .i64 v13)] [] 1 (by simp [h1, h1_, h3, h3_, h5, h5_]) (by simp [h1, h1_, h3, h3_, h5, h5_]) (by simp) ?_
        refine AW.seqR mixed [] [none, none, none, none, none, none, none, none, none] (by kernel_rfl) fun G985 R985 hG985 hR985 => ?_
        try simp [h1, h1_, h3, h3_, h5, h5_]
        repeat' apply And.intro
        try any_goals (first | omega | (unfold maxLen; omega) | (simp [h1, h1_, h3, h3_, h5, h5_]; done))
        obtain ⟨v14, v15, h7, hF⟩ := bnd2_elim hF
        refine aCall_l (w_ref26_Draw k _ _ _ _ _ h7) (by simp) [] [] [] rfl (.cons (.same (by simp [h1, h1_, h3, h3_, h5, h5_])) (.cons (.same (by simp [h1, h1_, h3, h3_, h5, h5_])) (.cons (.same (by simp [h1, h1_, h3, h3_, h5, h5_])) .nil))) (by simp [h1, h1_, h3, h3_, h5, h5_]) (by decide) (by simp) (by simp) (.inl rfl) (by simp) (by simp) ?_
        try simp [h1, h1_, h3, h3_, h5, h5_]
        repeat' apply And.intro
        any_goals (first | exact hG985 _ (by kernel_rfl) | refine hR985 _ _ _ ?_ | omega | (unfold maxLen; omega) | (simp [h1, h1_, h3, h3_, h5, h5_]; done) | (simp [h1, h1_, h3, h3_, h5, h5_]; omega))
        refine AW.wk [(0, AV.lst false false (List.map (AV.int .i64) v7)), (1, AV.lst false false (List.map (AV.int .i64) v8)), (2, AV.int .i64 v9), (3, AV.int .i64 v10), (9, AV.int .i64 v11), (10, AV.lst false false (List.map (AV.int .i64) v12)), (11, AV.int .i64 v13), (12, AV.slc 1 0 1 v14.length false), (13, AV.int .i64 v15)] [(1, .grow (List.map (AV.int .i64) v14))] 2 (by simp [h1, h1_, h3, h3_, h5, h5_]) (by simp [h1, h1_, h3, h3_, h5, h5_]) (by simp) ?_
        refine AW.frz 1 (o := .grow (List.map (AV.int .i64) v14)) (by simp [h1, h1_, h3, h3_, h5, h5_]) rfl [(12, AV.lst false false (List.map (AV.int .i64) v14))] [] ⟨(.l (by simp) (by simp) (by simp) (by simp)), trivial⟩ trivial ?_
        refine AW.wk [(0, AV.lst false false (List.map (AV.int .i64) v7)), (1, AV.lst false false (List.map (AV.int .i64) v8)), (2, AV.int .i64 v9), (3, AV.int .i64 v10), (9, AV.int .i64 v11), (10, AV.lst false false (List.map (AV.int .i64) v12)), (11, AV.int .i64 v13), (12, AV.lst false false (List.map (AV.int .i64) v14)), (13, AV.int .i64 v15)] [] 2 (by simp [h1, h1_, h3, h3_, h5, h5_]) (by simp [h1, h1_, h3, h3_, h5, h5_]) (by simp) ?_
        refine AW.seq fun K991 hK991 => ?_
        refine AW.seqR mixed [] [none, none, none, none, some (45, false), some (45, false), some (45, false), some (45, false), none, none, some (51, false), some (51, false), some (51, false), some (51, false), some (51, false), some (51, false), some (51, false), none, none, some (60, false), some (60, false), some (60, false), some (60, false), some (60, false), none] (by kernel_rfl) fun G992 R992 hG992 hR992 => ?_
        by_cases h8 : v13 ≠ v15
        · replace hF := ite_t h8 hF
          have h8_ := eqb_f h8
          have h8__ := neb_t h8
          try simp [h1, h1_, h3, h3_, h5, h5_, h8, h8_, h8__]
          repeat' apply And.intro
          any_goals (first | exact hG992 _ (by kernel_rfl) | refine hR992 _ _ _ ?_ | omega | (unfold maxLen; omega) | (simp [h1, h1_, h3, h3_, h5, h5_, h8, h8_, h8__]; done) | (simp [h1, h1_, h3, h3_, h5, h5_, h8, h8_, h8__]; omega))
          refine AW.wk [(0, AV.lst false false (List.map (AV.int .i64) v7)), (1, AV.lst false false (List.map (AV.int .i64) v8)), (2, AV.int .i64 v9), (3, AV.int .i64 v10), (9, AV.int .i64 v11), (66, AV.bool true)] [] 2 (by simp [h1, h1_, h3, h3_, h5, h5_, h8, h8_, h8__]) (by simp [h1, h1_, h3, h3_, h5, h5_, h8, h8_, h8__]) (by simp) ?_
          refine AW.condT (by decide) (by simp [h1, h1_, h3, h3_, h5, h5_, h8, h8_, h8__]) ?_
          refine AW.seqR mixed [] [none] (by kernel_rfl) fun G993 R993 hG993 hR993 => ?_
          try simp [h1, h1_, h3, h3_, h5, h5_, h8, h8_, h8__]
          repeat' apply And.intro
          any_goals (first | exact hG993 _ (by kernel_rfl) | refine hR993 _ _ _ ?_ | omega | (unfold maxLen; omega) | (simp [h1, h1_, h3, h3_, h5, h5_, h8, h8_, h8__]; done) | (simp [h1, h1_, h3, h3_, h5, h5_, h8, h8_, h8__]; omega))
          refine AW.wk [(8, AV.bool false)] [] 2 (by simp [h1, h1_, h3, h3_, h5, h5_, h8, h8_, h8__]) (by simp [h1, h1_, h3, h3_, h5, h5_, h8, h8_, h8__]) (by simp) ?_
          simp only [Option.some.injEq] at hF
          subst hF
          refine AW.ret (hQ _ _ _ ?_ (matchO_0 ?_)).1
          · simp [Try.f12, h1, h1_, h3, h3_, h5, h5_, h8, h8_, h8__]
          · simp [h1, h1_, h3, h3_, h5, h5_, h8, h8_, h8__]
        · replace hF := ite_f h8 hF
          have h8q : v13 = v15 := Classical.not_not.1 h8
          have h8_ := eqb_t h8q
          have h8__ := neb_f h8q
          try simp [h1, h1_, h3, h3_, h5, h5_, h8_, h8__]
          repeat' apply And.intro
          try any_goals (first | omega | (unfold maxLen; omega) | (simp [h1, h1_, h3, h3_, h5, h5_, h8_, h8__]; done))
          obtain ⟨v16, h9, hF⟩ := bnd1_elim hF
          refine aCall_l (w_ref23_SameInts k _ _ _ h9) (by simp) [] [] [] rfl (.cons (.same (by simp [h1, h1_, h3, h3_, h5, h5_, h8_, h8__])) (.cons (.same (by simp [h1, h1_, h3, h3_, h5, h5_, h8_, h8__])) .nil)) (by simp [h1, h1_, h3, h3_, h5, h5_, h8_, h8__]) (by decide) (by simp) (by simp) (.inl rfl) (by simp) (by simp) ?_
          by_cases h10 : (!v16) = true
          · replace hF := ite_t h10 hF
            have h10_ := h10
            try simp at h10_
            try simp [h1, h1_, h3, h3_, h5, h5_, h8_, h8__, h10, h10_]
            repeat' apply And.intro
            any_goals (first | exact hG992 _ (by kernel_rfl) | refine hR992 _ _ _ ?_ | omega | (unfold maxLen; omega) | (simp [h1, h1_, h3, h3_, h5, h5_, h8_, h8__, h10, h10_]; done) | (simp [h1, h1_, h3, h3_, h5, h5_, h8_, h8__, h10, h10_]; omega))
            refine AW.wk [(0, AV.lst false false (List.map (AV.int .i64) v7)), (1, AV.lst false false (List.map (AV.int .i64) v8)), (2, AV.int .i64 v9), (3, AV.int .i64 v10), (9, AV.int .i64 v11), (66, AV.bool true)] [] 2 (by simp [h1, h1_, h3, h3_, h5, h5_, h8_, h8__, h10, h10_]) (by simp [h1, h1_, h3, h3_, h5, h5_, h8_, h8__, h10, h10_]) (by simp) ?_
            refine AW.condT (by decide) (by simp [h1, h1_, h3, h3_, h5, h5_, h8_, h8__, h10, h10_]) ?_
            refine AW.seqR mixed [] [none] (by kernel_rfl) fun G994 R994 hG994 hR994 => ?_
            try simp [h1, h1_, h3, h3_, h5, h5_, h8_, h8__, h10, h10_]
            repeat' apply And.intro
            any_goals (first | exact hG994 _ (by kernel_rfl) | refine hR994 _ _ _ ?_ | omega | (unfold maxLen; omega) | (simp [h1, h1_, h3, h3_, h5, h5_, h8_, h8__, h10, h10_]; done) | (simp [h1, h1_, h3, h3_, h5, h5_, h8_, h8__, h10, h10_]; omega))
            refine AW.wk [(8, AV.bool false)] [] 2 (by simp [h1, h1_, h3, h3_, h5, h5_, h8_, h8__, h10, h10_]) (by simp [h1, h1_, h3, h3_, h5, h5_, h8_, h8__, h10, h10_]) (by simp) ?_
            simp only [Option.some.injEq] at hF
            subst hF
            refine AW.ret (hQ _ _ _ ?_ (matchO_0 ?_)).1
            · simp [Try.f12, h1, h1_, h3, h3_, h5, h5_, h8_, h8__, h10, h10_]
            · simp [h1, h1_, h3, h3_, h5, h5_, h8_, h8__, h10, h10_]
          · replace hF := ite_f h10 hF
            have h10_ := h10
            try simp at h10_
            try simp [h1, h1_, h3, h3_, h5, h5_, h8_, h8__, h10, h10_]
            repeat' apply And.intro
            try any_goals (first | omega | (unfold maxLen; omega) | (simp [h1, h1_, h3, h3_, h5, h5_, h8_, h8__, h10, h10_]; done))
            obtain ⟨v17, h11, hF⟩ := bnd1_elim hF
            refine aCall_l (w_committee_Enough k _ _ _ h11) (by simp) [] [] [] rfl (.cons (.same (by simp [h1, h1_, h3, h3_, h5, h5_, h8_, h8__, h10, h10_])) (.cons (.same (by simp [h1, h1_, h3, h3_, h5, h5_, h8_, h8__, h10, h10_])) .nil)) (by simp [h1, h1_, h3, h3_, h5, h5_, h8_, h8__, h10, h10_]) (by decide) (by simp) (by simp) (.inl rfl) (by simp) (by simp) ?_
            try simp [h1, h1_, h3, h3_, h5, h5_, h8_, h8__, h10, h10_]
            repeat' apply And.intro
            try any_goals (first | omega | (unfold maxLen; omega) | (simp [h1, h1_, h3, h3_, h5, h5_, h8_, h8__, h10, h10_]; done))
            obtain ⟨v18, h12, hF⟩ := bnd1_elim hF
            refine aCall_l (w_ref26_Enough k _ _ _ h12) (by simp) [] [] [] rfl (.cons (.same (by simp [h1, h1_, h3, h3_, h5, h5_, h8_, h8__, h10, h10_])) (.cons (.same (by simp [h1, h1_, h3, h3_, h5, h5_, h8_, h8__, h10, h10_])) .nil)) (by simp [h1, h1_, h3, h3_, h5, h5_, h8_, h8__, h10, h10_]) (by decide) (by simp) (by simp) (.inl rfl) (by simp) (by simp) ?_
            by_cases h13 : (v17 != v18) = true
            · replace hF := ite_t h13 hF
              have h13_ := h13
              try simp at h13_
              try simp [h1, h1_, h3, h3_, h5, h5_, h8_, h8__, h10, h10_, h13, h13_]
              repeat' apply And.intro
              any_goals (first | exact hG992 _ (by kernel_rfl) | refine hR992 _ _ _ ?_ | omega | (unfold maxLen; omega) | (simp [h1, h1_, h3, h3_, h5, h5_, h8_, h8__, h10, h10_, h13, h13_]; done) | (simp [h1, h1_, h3, h3_, h5, h5_, h8_, h8__, h10, h10_, h13, h13_]; omega))
              refine AW.wk [(0, AV.lst false false (List.map (AV.int .i64) v7)), (1, AV.lst false false (List.map (AV.int .i64) v8)), (2, AV.int .i64 v9), (3, AV.int .i64 v10), (9, AV.int .i64 v11), (66, AV.bool true)] [] 2 (by simp [h1, h1_, h3, h3_, h5, h5_, h8_, h8__, h10, h10_, h13, h13_]) (by simp [h1, h1_, h3, h3_, h5, h5_, h8_, h8__, h10, h10_, h13, h13_]) (by simp) ?_
              refine AW.condT (by decide) (by simp [h1, h1_, h3, h3_, h5, h5_, h8_, h8__, h10, h10_, h13, h13_]) ?_
              refine AW.seqR mixed [] [none] (by kernel_rfl) fun G995 R995 hG995 hR995 => ?_
              try simp [h1, h1_, h3, h3_, h5, h5_, h8_, h8__, h10, h10_, h13, h13_]
              repeat' apply And.intro
              any_goals (first | exact hG995 _ (by kernel_rfl) | refine hR995 _ _ _ ?_ | omega | (unfold maxLen; omega) | (simp [h1, h1_, h3, h3_, h5, h5_, h8_, h8__, h10, h10_, h13, h13_]; done) | (simp [h1, h1_, h3, h3_, h5, h5_, h8_, h8__, h10, h10_, h13, h13_]; omega))
              refine AW.wk [(8, AV.bool false)] [] 2 (by simp [h1, h1_, h3, h3_, h5, h5_, h8_, h8__, h10, h10_, h13, h13_]) (by simp [h1, h1_, h3, h3_, h5, h5_, h8_, h8__, h10, h10_, h13, h13_]) (by simp) ?_
              simp only [Option.some.injEq] at hF
              subst hF
              refine AW.ret (hQ _ _ _ ?_ (matchO_0 ?_)).1
              · simp [Try.f12, h1, h1_, h3, h3_, h5, h5_, h8_, h8__, h10, h10_, h13, h13_]
              · simp [h1, h1_, h3, h3_, h5, h5_, h8_, h8__, h10, h10_, h13, h13_]
            · replace hF := ite_f h13 hF
              have h13_ := h13
              try simp at h13_
              try simp [h1, h1_, h3, h3_, h5, h5_, h8_, h8__, h10, h10_, h13, h13_]
              repeat' apply And.intro
              try any_goals (first | omega | (unfold maxLen; omega) | (simp [h1, h1_, h3, h3_, h5, h5_, h8_, h8__, h10, h10_, h13, h13_]; done))
              obtain ⟨v19, h14, hF⟩ := bnd1_elim hF
              refine aCall_l (w_committee_Quorum k _ _ h14) (by simp) [] [] [] rfl (.cons (.same (by simp [h1, h1_, h3, h3_, h5, h5_, h8_, h8__, h10, h10_, h13, h13_])) .nil) (by simp [h1, h1_, h3, h3_, h5, h5_, h8_, h8__, h10, h10_, h13, h13_]) (by decide) (by simp) (by simp) (.inl rfl) (by simp) (by simp) ?_
              try simp [h1, h1_, h3, h3_, h5, h5_, h8_, h8__, h10, h10_, h13, h13_]
              repeat' apply And.intro
              try any_goals (first | omega | (unfold maxLen; omega) | (simp [h1, h1_, h3, h3_, h5, h5_, h8_, h8__, h10, h10_, h13, h13_]; done))
              obtain ⟨v20, h15, hF⟩ := bnd1_elim hF
              refine aCall_l (w_ref26_Quorum k _ _ h15) (by simp) [] [] [] rfl (.cons (.same (by simp [h1, h1_, h3, h3_, h5, h5_, h8_, h8__, h10, h10_, h13, h13_])) .nil) (by simp [h1, h1_, h3, h3_, h5, h5_, h8_, h8__, h10, h10_, h13, h13_]) (by decide) (by simp) (by simp) (.inl rfl) (by simp) (by simp) ?_
              try simp [h1, h1_, h3, h3_, h5, h5_, h8_, h8__, h10, h10_, h13, h13_]
              repeat' apply And.intro
              any_goals (first | exact hG992 _ (by kernel_rfl) | refine hR992 _ _ _ ?_ | omega | (unfold maxLen; omega) | (simp [h1, h1_, h3, h3_, h5, h5_, h8_, h8__, h10, h10_, h13, h13_]; done) | (simp [h1, h1_, h3, h3_, h5, h5_, h8_, h8__, h10, h10_, h13, h13_]; omega))
              refine AW.wk [(0, AV.lst false false (List.map (AV.int .i64) v7)), (1, AV.lst false false (List.map (AV.int .i64) v8)), (2, AV.int .i64 v9), (3, AV.int .i64 v10), (9, AV.int .i64 v11), (66, AV.bool (v19 != v20))] [] 2 (by simp [h1, h1_, h3, h3_, h5, h5_, h8_, h8__, h10, h10_, h13, h13_]) (by simp [h1, h1_, h3, h3_, h5, h5_, h8_, h8__, h10, h10_, h13, h13_]) (by simp) ?_
              by_cases h16 : v19 ≠ v20
              · replace hF := ite_t h16 hF
                have h16_ := eqb_f h16
                have h16__ := neb_t h16
                refine AW.condT (by decide) (by first | (simp [h1, h1_, h3, h3_, h5, h5_, h8_, h8__, h10, h10_, h13, h13_, h16, h16_, h16__]; done) | (simp [h1, h1_, h3, h3_, h5, h5_, h8_, h8__, h10, h10_, h13, h13_, h16, h16_, h16__]; omega)) ?_
                refine AW.seqR mixed [] [none] (by kernel_rfl) fun G996 R996 hG996 hR996 => ?_
                try simp [h1, h1_, h3, h3_, h5, h5_, h8_, h8__, h10, h10_, h13, h13_, h16, h16_, h16__]
                repeat' apply And.intro
                any_goals (first | exact hG996 _ (by kernel_rfl) | refine hR996 _ _ _ ?_ | omega | (unfold maxLen; omega) | (simp [h1, h1_, h3, h3_, h5, h5_, h8_, h8__, h10, h10_, h13, h13_, h16, h16_, h16__]; done) | (simp [h1, h1_, h3, h3_, h5, h5_, h8_, h8__, h10, h10_, h13, h13_, h16, h16_, h16__]; omega))
                refine AW.wk [(8, AV.bool false)] [] 2 (by simp [h1, h1_, h3, h3_, h5, h5_, h8_, h8__, h10, h10_, h13, h13_, h16, h16_, h16__]) (by simp [h1, h1_, h3, h3_, h5, h5_, h8_, h8__, h10, h10_, h13, h13_, h16, h16_, h16__]) (by simp) ?_
                simp only [Option.some.injEq] at hF
                subst hF
                refine AW.ret (hQ _ _ _ ?_ (matchO_0 ?_)).1
                · simp [Try.f12, h1, h1_, h3, h3_, h5, h5_, h8_, h8__, h10, h10_, h13, h13_, h16, h16_, h16__]
                · simp [h1, h1_, h3, h3_, h5, h5_, h8_, h8__, h10, h10_, h13, h13_, h16, h16_, h16__]
              · replace hF := ite_f h16 hF
                have h16q : v19 = v20 := Classical.not_not.1 h16
                have h16_ := eqb_t h16q
                have h16__ := neb_f h16q
                refine AW.condF (by decide) (by first | (simp [h1, h1_, h3, h3_, h5, h5_, h8_, h8__, h10, h10_, h13, h13_, h16_, h16__]; done) | (simp [h1, h1_, h3, h3_, h5, h5_, h8_, h8__, h10, h10_, h13, h13_, h16_, h16__]; omega)) ?_
                refine AW.skip ?_
                refine hK991 _ _ _ ?_
                refine AW.seqR mixed [] [none, none, none, none] (by kernel_rfl) fun G997 R997 hG997 hR997 => ?_
                try simp [h1, h1_, h3, h3_, h5, h5_, h8_, h8__, h10, h10_, h13, h13_, h16_, h16__]
                repeat' apply And.intro
                try any_goals (first | omega | (unfold maxLen; omega) | (simp [h1, h1_, h3, h3_, h5, h5_, h8_, h8__, h10, h10_, h13, h13_, h16_, h16__]; done))
                obtain ⟨v21, h17, hF⟩ := bnd1_elim hF
                refine aCall_l (w_ref24_Join k _ _ _ h17) (by simp) [] [] [] rfl (.cons (.same (by simp [h1, h1_, h3, h3_, h5, h5_, h8_, h8__, h10, h10_, h13, h13_, h16_, h16__])) (.cons (Coe.fl (by simp [h1, h1_, h3, h3_, h5, h5_, h8_, h8__, h10, h10_, h13, h13_, h16_, h16__])) .nil)) (by simp [h1, h1_, h3, h3_, h5, h5_, h8_, h8__, h10, h10_, h13, h13_, h16_, h16__]) (by decide) (by simp) (by simp) (.inl rfl) (by simp) (by simp) ?_
                try simp [h1, h1_, h3, h3_, h5, h5_, h8_, h8__, h10, h10_, h13, h13_, h16_, h16__]
                repeat' apply And.intro
                any_goals (first | exact hG997 _ (by kernel_rfl) | refine hR997 _ _ _ ?_ | omega | (unfold maxLen; omega) | (simp [h1, h1_, h3, h3_, h5, h5_, h8_, h8__, h10, h10_, h13, h13_, h16_, h16__]; done) | (simp [h1, h1_, h3, h3_, h5, h5_, h8_, h8__, h10, h10_, h13, h13_, h16_, h16__]; omega))
                refine AW.wk [(0, AV.slc 2 0 1 v21.length false), (1, AV.lst false false (List.map (AV.int .i64) v8)), (2, AV.int .i64 v9), (3, AV.int .i64 v10), (9, AV.int .i64 v11)] [(2, .grow (List.map (AV.int .i64) v21))] 3 (by simp [h1, h1_, h3, h3_, h5, h5_, h8_, h8__, h10, h10_, h13, h13_, h16_, h16__]) (by simp [h1, h1_, h3, h3_, h5, h5_, h8_, h8__, h10, h10_, h13, h13_, h16_, h16__]) (by simp) ?_
                refine AW.frz 2 (o := .grow (List.map (AV.int .i64) v21)) (by simp [h1, h1_, h3, h3_, h5, h5_, h8_, h8__, h10, h10_, h13, h13_, h16_, h16__]) rfl [(0, AV.lst false false (List.map (AV.int .i64) v21))] [] ⟨(.l (by simp) (by simp) (by simp) (by simp)), trivial⟩ trivial ?_
                refine AW.wk [(0, AV.lst false false (List.map (AV.int .i64) v21)), (1, AV.lst false false (List.map (AV.int .i64) v8)), (2, AV.int .i64 v9), (3, AV.int .i64 v10), (9, AV.int .i64 v11)] [] 3 (by simp [h1, h1_, h3, h3_, h5, h5_, h8_, h8__, h10, h10_, h13, h13_, h16_, h16__]) (by simp [h1, h1_, h3, h3_, h5, h5_, h8_, h8__, h10, h10_, h13, h13_, h16_, h16__]) (by simp) ?_
                refine AW.seqR mixed [] [none, none, none, none, none, none] (by kernel_rfl) fun G998 R998 hG998 hR998 => ?_
                try simp [h1, h1_, h3, h3_, h5, h5_, h8_, h8__, h10, h10_, h13, h13_, h16_, h16__]
                repeat' apply And.intro
                try any_goals (first | omega | (unfold maxLen; omega) | (simp [h1, h1_, h3, h3_, h5, h5_, h8_, h8__, h10, h10_, h13, h13_, h16_, h16__]; done))
                obtain ⟨v22, h18, hF⟩ := bnd1_elim hF
                refine aCall_l (w_mill_Mod k _ _ _ h18) (by simp) [] [] [] rfl (.cons (.same (by simp [h1, h1_, h3, h3_, h5, h5_, h8_, h8__, h10, h10_, h13, h13_, h16_, h16__])) (.cons (.same (by simp [h1, h1_, h3, h3_, h5, h5_, h8_, h8__, h10, h10_, h13, h13_, h16_, h16__])) .nil)) (by simp [h1, h1_, h3, h3_, h5, h5_, h8_, h8__, h10, h10_, h13, h13_, h16_, h16__]) (by decide) (by simp) (by simp) (.inl rfl) (by simp) (by simp) ?_
                try simp [h1, h1_, h3, h3_, h5, h5_, h8_, h8__, h10, h10_, h13, h13_, h16_, h16__]
                repeat' apply And.intro
                try any_goals (first | omega | (unfold maxLen; omega) | (simp [h1, h1_, h3, h3_, h5, h5_, h8_, h8__, h10, h10_, h13, h13_, h16_, h16__]; done))
                obtain ⟨v23, h19, hF⟩ := bnd1_elim hF
                refine aCall_l (w_mill_Mod k _ _ _ h19) (by simp) [] [] [] rfl (.cons (.same (by simp [h1, h1_, h3, h3_, h5, h5_, h8_, h8__, h10, h10_, h13, h13_, h16_, h16__])) (.cons (.same (by simp [h1, h1_, h3, h3_, h5, h5_, h8_, h8__, h10, h10_, h13, h13_, h16_, h16__])) .nil)) (by simp [h1, h1_, h3, h3_, h5, h5_, h8_, h8__, h10, h10_, h13, h13_, h16_, h16__]) (by decide) (by simp) (by simp) (.inl rfl) (by simp) (by simp) ?_
                try simp [h1, h1_, h3, h3_, h5, h5_, h8_, h8__, h10, h10_, h13, h13_, h16_, h16__]
                repeat' apply And.intro
                any_goals (first | exact hG998 _ (by kernel_rfl) | refine hR998 _ _ _ ?_ | omega | (unfold maxLen; omega) | (simp [h1, h1_, h3, h3_, h5, h5_, h8_, h8__, h10, h10_, h13, h13_, h16_, h16__]; done) | (simp [h1, h1_, h3, h3_, h5, h5_, h8_, h8__, h10, h10_, h13, h13_, h16_, h16__]; omega))
                refine AW.wk [(0, AV.lst false false (List.map (AV.int .i64) v21)), (1, AV.lst false false (List.map (AV.int .i64) v8)), (2, AV.int .i64 v22), (3, AV.int .i64 v23), (9, AV.int .i64 v11)] [] 3 (by simp [h1, h1_, h3, h3_, h5, h5_, h8_, h8__, h10, h10_, h13, h13_, h16_, h16__]) (by simp [h1, h1_, h3, h3_, h5, h5_, h8_, h8__, h10, h10_, h13, h13_, h16_, h16__]) (by simp) ?_
                refine AW.seqR mixed [76] [none, none, none, none] (by kernel_rfl) fun G999 R999 hG999 hR999 => ?_
                obtain ⟨h20, hF⟩ := chk_elim hF
                have h20_ := h20
                try simp at h20_
                try simp [h1, h1_, h3, h3_, h5, h5_, h8_, h8__, h10, h10_, h13, h13_, h16_, h16__, h20]
                repeat' apply And.intro
                any_goals (first | exact hG999 _ (by kernel_rfl) | refine hR999 _ _ _ ?_ | omega | (unfold maxLen; omega) | (simp [h1, h1_, h3, h3_, h5, h5_, h8_, h8__, h10, h10_, h13, h13_, h16_, h16__, h20]; done) | (simp [h1, h1_, h3, h3_, h5, h5_, h8_, h8__, h10, h10_, h13, h13_, h16_, h16__, h20]; omega))
                refine AW.wk [(0, AV.lst false false (List.map (AV.int .i64) v21)), (1, AV.slc 3 0 1 v8.length false), (2, AV.int .i64 v22), (3, AV.int .i64 v23), (9, AV.int .i64 v11)] [(3, .grow (List.map (AV.int .i64) v8))] 4 (by simp [h1, h1_, h3, h3_, h5, h5_, h8_, h8__, h10, h10_, h13, h13_, h16_, h16__, h20]) (by simp [h1, h1_, h3, h3_, h5, h5_, h8_, h8__, h10, h10_, h13, h13_, h16_, h16__, h20]) (by simp) ?_
                refine AW.seqR mixed [] [none] (by kernel_rfl) fun G1000 R1000 hG1000 hR1000 => ?_
                try simp [h1, h1_, h3, h3_, h5, h5_, h8_, h8__, h10, h10_, h13, h13_, h16_, h16__, h20]
                repeat' apply And.intro
                any_goals (first | exact hG1000 _ (by kernel_rfl) | refine hR1000 _ _ _ ?_ | omega | (unfold maxLen; omega) | (simp [h1, h1_, h3, h3_, h5, h5_, h8_, h8__, h10, h10_, h13, h13_, h16_, h16__, h20]; done) | (simp [h1, h1_, h3, h3_, h5, h5_, h8_, h8__, h10, h10_, h13, h13_, h16_, h16__, h20]; omega))
                refine AW.wk [(0, AV.lst false false (List.map (AV.int .i64) v21)), (1, AV.slc 3 0 1 v8.length false), (2, AV.int .i64 v22), (3, AV.int .i64 v23), (9, AV.int .i64 v11), (14, AV.int .i64 0)] [(3, .grow (List.map (AV.int .i64) v8))] 4 (by simp [h1, h1_, h3, h3_, h5, h5_, h8_, h8__, h10, h10_, h13, h13_, h16_, h16__, h20]) (by simp [h1, h1_, h3, h3_, h5, h5_, h8_, h8__, h10, h10_, h13, h13_, h16_, h16__, h20]) (by simp) ?_
                refine AW.block ?_
                refine AW.rnm (m := 0) h0 [(0, 3)] [(0, AV.lst false false (List.map (AV.int .i64) v21)), (1, AV.slc 0 0 1 v8.length false), (2, AV.int .i64 v22), (3, AV.int .i64 v23), (9, AV.int .i64 v11), (14, AV.int .i64 0)] [(0, .grow (List.map (AV.int .i64) v8))] 1 (by decide) (by decide) (by decide) rfl (by simp [h1, h1_, h3, h3_, h5, h5_, h8_, h8__, h10, h10_, h13, h13_, h16_, h16__, h20]) (by simp [h1, h1_, h3, h3_, h5, h5_, h8_, h8__, h10, h10_, h13, h13_, h16_, h16__, h20]) ?_
                refine AW.loopF (α := (Int × (List Int))) (fun n (v24, v25) => law26_CommitteeDraws.L2 k v11 v21 v22 v23 (fun v7_ v8_ v9_ v10_ v11_ => law26_CommitteeDraws.L1 k n1 v7_ v8_ v9_ v10_ v11_) n v24 v25 = some v4) (fun (v24, v25) => [(0, AV.lst false false (List.map (AV.int .i64) v21)), (1, AV.slc 0 0 1 v25.length false), (2, AV.int .i64 v22), (3, AV.int .i64 v23), (9, AV.int .i64 v11), (14, AV.int .i64 v24)]) (fun (v24, v25) => [(0, .grow (List.map (AV.int .i64) v25))]) 1 k ((0, v8)) hF (by simp [h1, h1_, h3, h3_, h5, h5_, h8_, h8__, h10, h10_, h13, h13_, h16_, h16__, h20]) (by simp [h1, h1_, h3, h3_, h5, h5_, h8_, h8__, h10, h10_, h13, h13_, h16_, h16__, h20]) (by simp) ?_
                rintro (_|n2) ⟨v24, v25⟩ hF K1015 hK1015
                · try dsimp only at hF
                  rw [law26_CommitteeDraws.L2] at hF; cases hF
                try dsimp only at hF
                rw [law26_CommitteeDraws.L2] at hF
                refine AW.seq fun K1017 hK1017 => ?_
                refine AW.seqR mixed [] [none, none, none, none] (by kernel_rfl) fun G1018 R1018 hG1018 hR1018 => ?_
                try simp [h1, h1_, h3, h3_, h5, h5_, h8_, h8__, h10, h10_, h13, h13_, h16_, h16__, h20]
                repeat' apply And.intro
                any_goals (first | exact hG1018 _ (by kernel_rfl) | refine hR1018 _ _ _ ?_ | omega | (unfold maxLen; omega) | (simp [h1, h1_, h3, h3_, h5, h5_, h8_, h8__, h10, h10_, h13, h13_, h16_, h16__, h20]; done) | (simp [h1, h1_, h3, h3_, h5, h5_, h8_, h8__, h10, h10_, h13, h13_, h16_, h16__, h20]; omega))
                refine AW.wk [(0, AV.lst false false (List.map (AV.int .i64) v21)), (1, AV.slc 0 0 1 v25.length false), (2, AV.int .i64 v22), (3, AV.int .i64 v23), (9, AV.int .i64 v11), (14, AV.int .i64 v24), (80, AV.bool (decide (v24 < (v25.length : Int))))] [(0, .grow (List.map (AV.int .i64) v25))] 1 (by simp [h1, h1_, h3, h3_, h5, h5_, h8_, h8__, h10, h10_, h13, h13_, h16_, h16__, h20]) (by simp [h1, h1_, h3, h3_, h5, h5_, h8_, h8__, h10, h10_, h13, h13_, h16_, h16__, h20]) (by simp) ?_
                by_cases h21 : v24 < (v25.length : Int)
                · replace hF := ite_t h21 hF
                  have h21_ := h21
                  try simp at h21_
                  refine AW.condT (by decide) (by first | (simp [h1, h1_, h3, h3_, h5, h5_, h8_, h8__, h10, h10_, h13, h13_, h16_, h16__, h20, h21, h21_]; done) | (simp [h1, h1_, h3, h3_, h5, h5_, h8_, h8__, h10, h10_, h13, h13_, h16_, h16__, h20, h21, h21_]; omega)) ?_
                  refine AW.skip ?_
                  refine hK1017 _ _ _ ?_
                  refine AW.seq fun K1020 hK1020 => ?_
                  refine AW.block ?_
                  refine AW.region mixed [] [none, none, none, none, none, none, none, none, none] (by kernel_rfl) fun G1021 R1021 hG1021 hR1021 => ?_
                  obtain ⟨⟨h22, h23⟩, hF⟩ := chk_elim hF
                  have h23_ := ne_of_lt h23
                  obtain ⟨v26, h24, h25, h26, hF⟩ := idx_elim hF
                  have h26_ := get_of h26
                  try simp at h26_
                  have h25_ := h25
                  try simp at h25_
                  try simp [h1, h1_, h3, h3_, h5, h5_, h8_, h8__, h10, h10_, h13, h13_, h16_, h16__, h20, h21, h21_, h22, h23, h23_, h24, h25, h26, h26_, h25_]
                  repeat' apply And.intro
                  try any_goals (first | omega | (unfold maxLen; omega) | (simp [h1, h1_, h3, h3_, h5, h5_, h8_, h8__, h10, h10_, h13, h13_, h16_, h16__, h20, h21, h21_, h22, h23, h23_, h24, h25, h26, h26_, h25_]; done))
                  obtain ⟨v27, h27, hF⟩ := bnd1_elim hF
                  refine aCall_l (w_mill_Mod k _ _ _ h27) (by simp) [] [] [] rfl (.cons (.same (by simp [h1, h1_, h3, h3_, h5, h5_, h8_, h8__, h10, h10_, h13, h13_, h16_, h16__, h20, h21, h21_, h22, h23, h23_, h24, h25, h26, h26_, h25_])) (.cons (.same (by simp [h1, h1_, h3, h3_, h5, h5_, h8_, h8__, h10, h10_, h13, h13_, h16_, h16__, h20, h21, h21_, h22, h23, h23_, h24, h25, h26, h26_, h25_])) .nil)) (by simp [h1, h1_, h3, h3_, h5, h5_, h8_, h8__, h10, h10_, h13, h13_, h16_, h16__, h20, h21, h21_, h22, h23, h23_, h24, h25, h26, h26_, h25_]) (by decide) (by simp) (by simp) (.inl rfl) (by simp) (by simp) ?_
                  obtain ⟨⟨h28, h29⟩, hF⟩ := chk_elim hF
                  have h29_ := ne_of_lt h29
                  try simp [h1, h1_, h3, h3_, h5, h5_, h8_, h8__, h10, h10_, h13, h13_, h16_, h16__, h20, h21, h21_, h22, h23, h23_, h24, h25, h26, h26_, h25_, h28, h29, h29_]
                  repeat' apply And.intro
                  any_goals (first | exact hG1021 _ (by kernel_rfl) | refine hR1021 _ _ _ ?_ | omega | (unfold maxLen; omega) | (simp [h1, h1_, h3, h3_, h5, h5_, h8_, h8__, h10, h10_, h13, h13_, h16_, h16__, h20, h21, h21_, h22, h23, h23_, h24, h25, h26, h26_, h25_, h28, h29, h29_]; done) | (simp [h1, h1_, h3, h3_, h5, h5_, h8_, h8__, h10, h10_, h13, h13_, h16_, h16__, h20, h21, h21_, h22, h23, h23_, h24, h25, h26, h26_, h25_, h28, h29, h29_]; omega))
                  refine hK1020 _ _ _ ?_
                  refine AW.wk [(0, AV.lst false false (List.map (AV.int .i64) v21)), (1, AV.slc 0 0 1 ((v25.set (v24).toNat v27).length) false), (2, AV.int .i64 v22), (3, AV.int .i64 v23), (9, AV.int .i64 v11), (14, AV.int .i64 v24)] [(0, .grow (List.map (AV.int .i64) (v25.set (v24).toNat v27)))] 1 (by simp [h1, h1_, h3, h3_, h5, h5_, h8_, h8__, h10, h10_, h13, h13_, h16_, h16__, h20, h21, h21_, h22, h23, h23_, h24, h25, h26, h26_, h25_, h28, h29, h29_]) (by simp [h1, h1_, h3, h3_, h5, h5_, h8_, h8__, h10, h10_, h13, h13_, h16_, h16__, h20, h21, h21_, h22, h23, h23_, h24, h25, h26, h26_, h25_, h28, h29, h29_]) (by simp) ?_
                  refine AW.region mixed [] [none, none, none] (by kernel_rfl) fun G1022 R1022 hG1022 hR1022 => ?_
                  try simp [h1, h1_, h3, h3_, h5, h5_, h8_, h8__, h10, h10_, h13, h13_, h16_, h16__, h20, h21, h21_, h22, h23, h23_, h24, h25, h26, h26_, h25_, h28, h29, h29_]
                  repeat' apply And.intro
                  any_goals (first | exact hG1022 _ (by kernel_rfl) | refine hR1022 _ _ _ ?_ | omega | (unfold maxLen; omega) | (simp [h1, h1_, h3, h3_, h5, h5_, h8_, h8__, h10, h10_, h13, h13_, h16_, h16__, h20, h21, h21_, h22, h23, h23_, h24, h25, h26, h26_, h25_, h28, h29, h29_]; done) | (simp [h1, h1_, h3, h3_, h5, h5_, h8_, h8__, h10, h10_, h13, h13_, h16_, h16__, h20, h21, h21_, h22, h23, h23_, h24, h25, h26, h26_, h25_, h28, h29, h29_]; omega))
                  refine hK1015 _ _ _ ?_
                  refine Can.weak [(0, AV.lst false false (List.map (AV.int .i64) v21)), (1, AV.slc 0 0 1 ((v25.set (v24).toNat v27).length) false), (2, AV.int .i64 v22), (3, AV.int .i64 v23), (9, AV.int .i64 v11), (14, AV.int .i64 (IntKind.wrap .i64 (v24 + 1)))] [(0, .grow (List.map (AV.int .i64) (v25.set (v24).toNat v27)))] 1 (by simp [h1, h1_, h3, h3_, h5, h5_, h8_, h8__, h10, h10_, h13, h13_, h16_, h16__, h20, h21, h21_, h22, h23, h23_, h24, h25, h26, h26_, h25_, h28, h29, h29_]) (by simp [h1, h1_, h3, h3_, h5, h5_, h8_, h8__, h10, h10_, h13, h13_, h16_, h16__, h20, h21, h21_, h22, h23, h23_, h24, h25, h26, h26_, h25_, h28, h29, h29_]) (by simp) ?_
                  exact Can.next (k' := n2) ((IntKind.wrap .i64 (v24 + 1), v25.set (v24).toNat v27)) (by omega) hF (by simp [h1, h1_, h3, h3_, h5, h5_, h8_, h8__, h10, h10_, h13, h13_, h16_, h16__, h20, h21, h21_, h22, h23, h23_, h24, h25, h26, h26_, h25_, h28, h29, h29_]) (by simp [h1, h1_, h3, h3_, h5, h5_, h8_, h8__, h10, h10_, h13, h13_, h16_, h16__, h20, h21, h21_, h22, h23, h23_, h24, h25, h26, h26_, h25_, h28, h29, h29_]) (by simp)
                · replace hF := ite_f h21 hF
                  have h21_ := h21
                  try simp at h21_
                  refine AW.condF (by decide) (by first | (simp [h1, h1_, h3, h3_, h5, h5_, h8_, h8__, h10, h10_, h13, h13_, h16_, h16__, h20, h21, h21_]; done) | (simp [h1, h1_, h3, h3_, h5, h5_, h8_, h8__, h10, h10_, h13, h13_, h16_, h16__, h20, h21, h21_]; omega)) ?_
                  refine AW.exit ?_
                  try simp
                  refine hK983 _ _ _ ?_
                  refine AW.region mixed [] [none, none, none] (by kernel_rfl) fun G1023 R1023 hG1023 hR1023 => ?_
                  try simp [h1, h1_, h3, h3_, h5, h5_, h8_, h8__, h10, h10_, h13, h13_, h16_, h16__, h20, h21, h21_]
                  repeat' apply And.intro
                  any_goals (first | exact hG1023 _ (by kernel_rfl) | refine hR1023 _ _ _ ?_ | omega | (unfold maxLen; omega) | (simp [h1, h1_, h3, h3_, h5, h5_, h8_, h8__, h10, h10_, h13, h13_, h16_, h16__, h20, h21, h21_]; done) | (simp [h1, h1_, h3, h3_, h5, h5_, h8_, h8__, h10, h10_, h13, h13_, h16_, h16__, h20, h21, h21_]; omega))
                  refine hK940 _ _ _ ?_
                  refine Can.weak [(0, AV.lst false false (List.map (AV.int .i64) v21)), (1, AV.slc 0 0 1 v25.length false), (2, AV.int .i64 v22), (3, AV.int .i64 v23), (9, AV.int .i64 (IntKind.wrap .i64 (v11 + 1)))] [(0, .grow (List.map (AV.int .i64) v25))] 1 (by simp [h1, h1_, h3, h3_, h5, h5_, h8_, h8__, h10, h10_, h13, h13_, h16_, h16__, h20, h21, h21_]) (by simp [h1, h1_, h3, h3_, h5, h5_, h8_, h8__, h10, h10_, h13, h13_, h16_, h16__, h20, h21, h21_]) (by simp) ?_
                  refine Can.freeze 0 (o := .grow (List.map (AV.int .i64) v25)) (by simp [h1, h1_, h3, h3_, h5, h5_, h8_, h8__, h10, h10_, h13, h13_, h16_, h16__, h20, h21, h21_]) rfl [(1, AV.lst false false (List.map (AV.int .i64) v25))] [] ⟨(.l (by simp) (by simp) (by simp) (by simp)), trivial⟩ trivial ?_
                  refine Can.ren (m := 0) h0 [] [(0, AV.lst false false (List.map (AV.int .i64) v21)), (1, AV.lst false false (List.map (AV.int .i64) v25)), (2, AV.int .i64 v22), (3, AV.int .i64 v23), (9, AV.int .i64 (IntKind.wrap .i64 (v11 + 1)))] [] 0 (by decide) (by decide) (by decide) rfl (by simp [h1, h1_, h3, h3_, h5, h5_, h8_, h8__, h10, h10_, h13, h13_, h16_, h16__, h20, h21, h21_]) (by simp [h1, h1_, h3, h3_, h5, h5_, h8_, h8__, h10, h10_, h13, h13_, h16_, h16__, h20, h21, h21_]) ?_
                  exact Can.next (k' := n1) ((v21, v25, v22, v23, IntKind.wrap .i64 (v11 + 1))) (by omega) hF (by simp [h1, h1_, h3, h3_, h5, h5_, h8_, h8__, h10, h10_, h13, h13_, h16_, h16__, h20, h21, h21_]) (by simp [h1, h1_, h3, h3_, h5, h5_, h8_, h8__, h10, h10_, h13, h13_, h16_, h16__, h20, h21, h21_]) (by simp)
      · replace hF := ite_f h5 hF
        have h5_ := h5
        try simp at h5_
        refine AW.condF (by decide) (by first | (simp [h1, h1_, h3, h3_, h5, h5_]; done) | (simp [h1, h1_, h3, h3_, h5, h5_]; omega)) ?_
        refine AW.exit ?_
        try simp
        refine hK772 _ _ _ ?_
        refine AW.seqR mixed [] [none, none] (by kernel_rfl) fun G1024 R1024 hG1024 hR1024 => ?_
        try simp [h1, h1_, h3, h3_, h5, h5_]
        repeat' apply And.intro
        try any_goals (first | omega | (unfold maxLen; omega) | (simp [h1, h1_, h3, h3_, h5, h5_]; done))
        obtain ⟨v28, h30, hF⟩ := bnd1_elim hF
        refine aCall_l (w_law26_awake k _ h30) (by simp) [] [] [] rfl .nil (by simp [h1, h1_, h3, h3_, h5, h5_]) (by decide) (by simp) (by simp) (.inl rfl) (by simp) (by simp) ?_
        try simp [h1, h1_, h3, h3_, h5, h5_]
        repeat' apply And.intro
        any_goals (first | exact hG1024 _ (by kernel_rfl) | refine hR1024 _ _ _ ?_ | omega | (unfold maxLen; omega) | (simp [h1, h1_, h3, h3_, h5, h5_]; done) | (simp [h1, h1_, h3, h3_, h5, h5_]; omega))
        refine AW.wk [(8, AV.bool v28)] [] 0 (by simp [h1, h1_, h3, h3_, h5, h5_]) (by simp [h1, h1_, h3, h3_, h5, h5_]) (by simp) ?_
        simp only [Option.some.injEq] at hF
        subst hF
        refine AW.ret (hQ _ _ _ ?_ (matchO_0 ?_)).1
        · simp [Try.f12, h1, h1_, h3, h3_, h5, h5_]
        · simp [h1, h1_, h3, h3_, h5, h5_]
end Go.TF
