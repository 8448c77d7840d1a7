/- Walks: the Go text computes the Lean functions (printed by a program of our own). -/
import Derived.Test.YtocmgnljgemjkaaPu
import Derived.Test.YtocmgnljgemjkaaAbsT
import Derived.Test.YtocmgnljgemjkaaWa0
import Derived.Test.YtocmgnljgemjkaaWa1
set_option linter.unusedVariables false
set_option linter.unusedSimpArgs false
set_option maxRecDepth 100000
namespace Go.TF
open Go Go.Abs Go.Proofs Go.Proofs.YtocmgnljgemjkaaT
set_option maxHeartbeats 4000000 in
theorem w_law34_awake (k : Nat) (v0 : Bool) (hF : law34_awake k = some v0) :
    FCall Try.prog 19 [] [] (AV.bool v0) [] := by
  unfold law34_awake at hF
  refine FCall.enter Try.func19 rfl (by simp) (by decide) (by simp) (by simp) (by simp) (by simp) (by simp) ?_
  intro c0 w0 Q h0 hQ
  refine AW.wk [] [] 0 (by simp) (by simp) (by simp) ?_
  refine AW.seqR mixed [] [none] (by kernel_rfl) fun G4 R4 hG4 hR4 => ?_
  try simp
  repeat' apply And.intro
  any_goals (first | exact hG4 _ (by kernel_rfl) | refine hR4 _ _ _ ?_ | omega | (unfold maxLen; omega) | (simp; done) | (simp; omega))
  refine AW.wk [] [] 0 (by simp) (by simp) (by simp) ?_
  refine AW.seqR mixed [] [none, none, none, none] (by kernel_rfl) fun G5 R5 hG5 hR5 => ?_
  try simp
  repeat' apply And.intro
  any_goals (first | exact hG5 _ (by kernel_rfl) | refine hR5 _ _ _ ?_ | omega | (unfold maxLen; omega) | (simp; done) | (simp; omega))
  refine AW.wk [(1, AV.ptr 0 0)] [(0, .cells [AV.int .i64 1, AV.int .i64 2, AV.lst false true (List.map (AV.int .i64) ([3, 4, 5] : List Int))])] 1 (by simp) (by simp) (by simp) ?_
  refine AW.seqR mixed [] [none, none, none, some (6, true), some (6, true), some (6, true), some (6, true), none, none, some (12, true), some (12, true), some (12, true), none, none] (by kernel_rfl) fun G6 R6 hG6 hR6 => ?_
  try simp
  repeat' apply And.intro
  try any_goals (first | omega | (unfold maxLen; omega) | (simp; done))
  obtain ⟨v1, h1, hF⟩ := bnd1_elim hF
  refine aCall_l (w_guardian_Valid k _ _ _ _ h1) (by simp) [] [] [] rfl (.cons (.agg (.cons (.same (by simp)) (.cons (.same (by simp)) (.cons (Coe.fl (by simp)) .nil)))) .nil) (by simp) (by decide) (by simp) (by simp) (.inl rfl) (by simp) (by simp) ?_
  by_cases h2 : v1 = true
  · replace hF := ite_t h2 hF
    have h2_ := h2
    try simp at h2_
    try simp [h2, h2_]
    repeat' apply And.intro
    try any_goals (first | omega | (unfold maxLen; omega) | (simp [h2, h2_]; done))
    obtain ⟨v2, h3, hF⟩ := bnd1_elim hF
    refine aCall_l (w_guardian_Enough k _ _ _ _ _ h3) (by simp) [] [] [] rfl (.cons (.agg (.cons (.same (by simp [h2, h2_])) (.cons (.same (by simp [h2, h2_])) (.cons (Coe.fl (by simp [h2, h2_])) .nil)))) (.cons (Coe.fl (by simp [h2, h2_])) .nil)) (by simp [h2, h2_]) (by decide) (by simp) (by simp) (.inl rfl) (by simp) (by simp) ?_
    by_cases h4 : (!v2) = true
    · replace hF := ite_t h4 hF
      have h4_ := h4
      try simp at h4_
      try simp [h2, h2_, h4, h4_]
      repeat' apply And.intro
      try any_goals (first | omega | (unfold maxLen; omega) | (simp [h2, h2_, h4, h4_]; done))
      obtain ⟨v3, h5, hF⟩ := bnd1_elim hF
      refine aCall_l (w_guardian_Enough k _ _ _ _ _ h5) (by simp) [] [] [] rfl (.cons (.agg (.cons (.same (by simp [h2, h2_, h4, h4_])) (.cons (.same (by simp [h2, h2_, h4, h4_])) (.cons (Coe.fl (by simp [h2, h2_, h4, h4_])) .nil)))) (.cons (Coe.fl (by simp [h2, h2_, h4, h4_])) .nil)) (by simp [h2, h2_, h4, h4_]) (by decide) (by simp) (by simp) (.inl rfl) (by simp) (by simp) ?_
      try simp [h2, h2_, h4, h4_]
      repeat' apply And.intro
      any_goals (first | exact hG6 _ (by kernel_rfl) | refine hR6 _ _ _ ?_ | omega | (unfold maxLen; omega) | (simp [h2, h2_, h4, h4_]; done) | (simp [h2, h2_, h4, h4_]; omega))
      refine AW.wk [(0, AV.bool v3)] [] 1 (by simp [h2, h2_, h4, h4_]) (by simp [h2, h2_, h4, h4_]) (by simp) ?_
      simp only [Option.some.injEq] at hF
      subst hF
      refine AW.ret (hQ _ _ _ ?_ (matchO_0 ?_)).1
      · simp [Try.f19, h2, h2_, h4, h4_]
      · simp [h2, h2_, h4, h4_]
    · replace hF := ite_f h4 hF
      have h4_ := h4
      try simp at h4_
      try simp [h2, h2_, h4, h4_]
      repeat' apply And.intro
      any_goals (first | exact hG6 _ (by kernel_rfl) | refine hR6 _ _ _ ?_ | omega | (unfold maxLen; omega) | (simp [h2, h2_, h4, h4_]; done) | (simp [h2, h2_, h4, h4_]; omega))
      refine AW.wk [(0, AV.bool false)] [] 1 (by simp [h2, h2_, h4, h4_]) (by simp [h2, h2_, h4, h4_]) (by simp) ?_
      simp only [Option.some.injEq] at hF
      subst hF
      refine AW.ret (hQ _ _ _ ?_ (matchO_0 ?_)).1
      · simp [Try.f19, h2, h2_, h4, h4_]
      · simp [h2, h2_, h4, h4_]
  · replace hF := ite_f h2 hF
    have h2_ := h2
    try simp at h2_
    try simp [h2, h2_]
    repeat' apply And.intro
    any_goals (first | exact hG6 _ (by kernel_rfl) | refine hR6 _ _ _ ?_ | omega | (unfold maxLen; omega) | (simp [h2, h2_]; done) | (simp [h2, h2_]; omega))
    refine AW.wk [(0, AV.bool false)] [] 1 (by simp [h2, h2_]) (by simp [h2, h2_]) (by simp) ?_
    simp only [Option.some.injEq] at hF
    subst hF
    refine AW.ret (hQ _ _ _ ?_ (matchO_0 ?_)).1
    · simp [Try.f19, h2, h2_]
    · simp [h2, h2_]
set_option maxHeartbeats 4000000 in
theorem w_made_Roll (k : Nat) (v0 : (List Int)) (v1 : (List Int)) (v2 : Int) (hF : made_Roll k v0 = some (v1, v2)) :
    FCall Try.prog 34 [AV.lst false false (List.map (AV.int .i64) v0)] [] (AV.ptr 0 0) [some (.cells [AV.lst false false (List.map (AV.int .i64) v1), AV.int .i64 v2])] := by
  unfold made_Roll at hF
  refine FCall.enter Try.func34 rfl (by simp) (by decide) (by simp) (by simp) (by simp) (by simp) (by simp) ?_
  intro c0 w0 Q h0 hQ
  refine AW.wk [(0, AV.lst false false (List.map (AV.int .i64) v0))] [] 0 (by simp) (by simp) (by simp) ?_
  refine AW.seqR mixed [] [none] (by kernel_rfl) fun G3 R3 hG3 hR3 => ?_
  try simp
  repeat' apply And.intro
  any_goals (first | exact hG3 _ (by kernel_rfl) | refine hR3 _ _ _ ?_ | omega | (unfold maxLen; omega) | (simp; done) | (simp; omega))
  refine AW.wk [(0, AV.lst false false (List.map (AV.int .i64) v0))] [] 0 (by simp) (by simp) (by simp) ?_
  refine AW.seqR mixed [] [none, none, none, none] (by kernel_rfl) fun G4 R4 hG4 hR4 => ?_
  try simp
  repeat' apply And.intro
  any_goals (first | exact hG4 _ (by kernel_rfl) | refine hR4 _ _ _ ?_ | omega | (unfold maxLen; omega) | (simp; done) | (simp; omega))
  refine AW.wk [(2, AV.ptr 0 0)] [(0, .cells [AV.lst false false (List.map (AV.int .i64) v0), AV.int .i64 0])] 1 (by simp) (by simp) (by simp) ?_
  simp only [Option.some.injEq, Prod.mk.injEq] at hF
  obtain ⟨e0, e1⟩ := hF
  subst e0 e1
  refine AW.ret (hQ _ _ _ ?_ (matchO_0 ?_)).1
  · simp [Try.f34]
  · simp
set_option maxHeartbeats 4000000 in
theorem w_mill_Roll (k : Nat) (v0 : (List Int)) (v1 : (List Int)) (v2 : Int) (hF : mill_Roll k v0 = some (v1, v2)) :
    FCall Try.prog 20 [AV.lst false false (List.map (AV.int .i64) v0)] [] (AV.ptr 0 0) [some (.cells [AV.lst false false (List.map (AV.int .i64) v1), AV.int .i64 v2])] := by
  unfold mill_Roll at hF
  refine FCall.enter Try.func20 rfl (by simp) (by decide) (by simp) (by simp) (by simp) (by simp) (by simp) ?_
  intro c0 w0 Q h0 hQ
  refine AW.wk [(0, AV.lst false false (List.map (AV.int .i64) v0))] [] 0 (by simp) (by simp) (by simp) ?_
  refine AW.seqR mixed [] [none] (by kernel_rfl) fun G3 R3 hG3 hR3 => ?_
  try simp
  repeat' apply And.intro
  any_goals (first | exact hG3 _ (by kernel_rfl) | refine hR3 _ _ _ ?_ | omega | (unfold maxLen; omega) | (simp; done) | (simp; omega))
  refine AW.wk [(0, AV.lst false false (List.map (AV.int .i64) v0))] [] 0 (by simp) (by simp) (by simp) ?_
  refine AW.seqR mixed [] [none, none, none] (by kernel_rfl) fun G4 R4 hG4 hR4 => ?_
  try simp
  repeat' apply And.intro
  try any_goals (first | omega | (unfold maxLen; omega) | (simp; done))
  obtain ⟨v3, v4, h1, hF⟩ := bnd2_elim hF
  refine aCall_l (w_made_Roll k _ _ _ h1) (by simp) [] [] [] rfl (.cons (.same (by simp)) .nil) (by simp) (by decide) (by simp) (by simp) (.inl rfl) (by simp) (by simp) ?_
  try simp
  repeat' apply And.intro
  any_goals (first | exact hG4 _ (by kernel_rfl) | refine hR4 _ _ _ ?_ | omega | (unfold maxLen; omega) | (simp; done) | (simp; omega))
  refine AW.wk [(2, AV.ptr 0 0)] [(0, .cells [AV.lst false false (List.map (AV.int .i64) v3), AV.int .i64 v4])] 1 (by simp) (by simp) (by simp) ?_
  simp only [Option.some.injEq, Prod.mk.injEq] at hF
  obtain ⟨e0, e1⟩ := hF
  subst e0 e1
  refine AW.ret (hQ _ _ _ ?_ (matchO_0 ?_)).1
  · simp [Try.f20]
  · simp
set_option maxHeartbeats 4000000 in
theorem w_made_Mod (k : Nat) (v0 : Int) (v1 : Int) (v2 : Int) (hF : made_Mod k v0 v1 = some v2) :
    FCall Try.prog 44 [AV.int .i64 v0, AV.int .i64 v1] [] (AV.int .i64 v2) [] := by
  unfold made_Mod at hF
  refine FCall.enter Try.func44 rfl (by simp) (by decide) (by simp) (by simp) (by simp) (by simp) (by simp) ?_
  intro c0 w0 Q h0 hQ
  refine AW.wk [(0, AV.int .i64 v0), (1, AV.int .i64 v1)] [] 0 (by simp) (by simp) (by simp) ?_
  refine AW.seqR mixed [] [none] (by kernel_rfl) fun G14 R14 hG14 hR14 => ?_
  try simp
  repeat' apply And.intro
  any_goals (first | exact hG14 _ (by kernel_rfl) | refine hR14 _ _ _ ?_ | omega | (unfold maxLen; omega) | (simp; done) | (simp; omega))
  refine AW.wk [(0, AV.int .i64 v0), (1, AV.int .i64 v1)] [] 0 (by simp) (by simp) (by simp) ?_
  refine AW.seq fun K17 hK17 => ?_
  refine AW.seqR mixed [] [none, none] (by kernel_rfl) fun G18 R18 hG18 hR18 => ?_
  try simp
  repeat' apply And.intro
  any_goals (first | exact hG18 _ (by kernel_rfl) | refine hR18 _ _ _ ?_ | omega | (unfold maxLen; omega) | (simp; done) | (simp; omega))
  refine AW.wk [(0, AV.int .i64 v0), (1, AV.int .i64 v1), (6, AV.bool (decide (v1 < 1)))] [] 0 (by simp) (by simp) (by simp) ?_
  by_cases h1 : v1 < 1
  · replace hF := ite_t h1 hF
    have h1_ := h1
    try simp at h1_
    refine AW.condT (by decide) (by first | (simp [h1, h1_]; done) | (simp [h1, h1_]; omega)) ?_
    refine AW.seqR mixed [] [none] (by kernel_rfl) fun G19 R19 hG19 hR19 => ?_
    try simp [h1, h1_]
    repeat' apply And.intro
    any_goals (first | exact hG19 _ (by kernel_rfl) | refine hR19 _ _ _ ?_ | omega | (unfold maxLen; omega) | (simp [h1, h1_]; done) | (simp [h1, h1_]; omega))
    refine AW.wk [(4, AV.int .i64 0)] [] 0 (by simp [h1, h1_]) (by simp [h1, h1_]) (by simp) ?_
    simp only [Option.some.injEq] at hF
    subst hF
    refine AW.ret (hQ _ _ _ ?_ (matchO_0 ?_)).1
    · simp [Try.f44, h1, h1_]
    · simp [h1, h1_]
  · replace hF := ite_f h1 hF
    have h1_ := h1
    try simp at h1_
    refine AW.condF (by decide) (by first | (simp [h1, h1_]; done) | (simp [h1, h1_]; omega)) ?_
    refine AW.skip ?_
    refine hK17 _ _ _ ?_
    refine AW.seqR mixed [] [none, none, none, none] (by kernel_rfl) fun G20 R20 hG20 hR20 => ?_
    obtain ⟨h2, hF⟩ := chk_elim hF
    have h2_ := h2
    try simp at h2_
    try simp [h1, h1_, h2, h2_]
    repeat' apply And.intro
    any_goals (first | exact hG20 _ (by kernel_rfl) | refine hR20 _ _ _ ?_ | omega | (unfold maxLen; omega) | (simp [h1, h1_, h2, h2_]; done) | (simp [h1, h1_, h2, h2_]; omega))
    refine AW.wk [(0, AV.int .i64 (Int.tmod v0 v1)), (1, AV.int .i64 v1)] [] 0 (by simp [h1, h1_, h2, h2_]) (by simp [h1, h1_, h2, h2_]) (by simp) ?_
    refine AW.midF (α := Int) (fun v3 => made_Mod.J1 k v3 = some v2) (fun v3 => [(0, AV.int .i64 v3)]) (fun v3 => []) 0 (fun K24 hK24 => ?_) ?_
    · refine AW.seqR mixed [] [none, none] (by kernel_rfl) fun G25 R25 hG25 hR25 => ?_
      try simp [h1, h1_, h2, h2_]
      repeat' apply And.intro
      any_goals (first | exact hG25 _ (by kernel_rfl) | refine hR25 _ _ _ ?_ | omega | (unfold maxLen; omega) | (simp [h1, h1_, h2, h2_]; done) | (simp [h1, h1_, h2, h2_]; omega))
      refine AW.wk [(0, AV.int .i64 (Int.tmod v0 v1)), (1, AV.int .i64 v1), (11, AV.bool (decide (Int.tmod v0 v1 < 0)))] [] 0 (by simp [h1, h1_, h2, h2_]) (by simp [h1, h1_, h2, h2_]) (by simp) ?_
      by_cases h3 : Int.tmod v0 v1 < 0
      · replace hF := ite_t h3 hF
        have h3_ := h3
        try simp at h3_
        refine AW.condT (by decide) (by first | (simp [h1, h1_, h2, h2_, h3, h3_]; done) | (simp [h1, h1_, h2, h2_, h3, h3_]; omega)) ?_
        refine AW.region mixed [] [none, none, none, none] (by kernel_rfl) fun G26 R26 hG26 hR26 => ?_
        try simp [h1, h1_, h2, h2_, h3, h3_]
        repeat' apply And.intro
        any_goals (first | exact hG26 _ (by kernel_rfl) | refine hR26 _ _ _ ?_ | omega | (unfold maxLen; omega) | (simp [h1, h1_, h2, h2_, h3, h3_]; done) | (simp [h1, h1_, h2, h2_, h3, h3_]; omega))
        refine hK24 _ _ _ ?_
        refine Can.weak [(0, AV.int .i64 (IntKind.wrap .i64 (Int.tmod v0 v1 + v1)))] [] 0 (by simp [h1, h1_, h2, h2_, h3, h3_]) (by simp [h1, h1_, h2, h2_, h3, h3_]) (by simp) ?_
        exact Can.join (IntKind.wrap .i64 (Int.tmod v0 v1 + v1)) hF (by simp [h1, h1_, h2, h2_, h3, h3_]) (by simp [h1, h1_, h2, h2_, h3, h3_]) (by simp)
      · replace hF := ite_f h3 hF
        have h3_ := h3
        try simp at h3_
        refine AW.condF (by decide) (by first | (simp [h1, h1_, h2, h2_, h3, h3_]; done) | (simp [h1, h1_, h2, h2_, h3, h3_]; omega)) ?_
        refine AW.skip ?_
        refine hK24 _ _ _ ?_
        exact Can.join (Int.tmod v0 v1) hF (by simp [h1, h1_, h2, h2_, h3, h3_]) (by simp [h1, h1_, h2, h2_, h3, h3_]) (by simp)
    · rintro v3 hF
      try dsimp only at hF
      unfold made_Mod.J1 at hF
      refine AW.seqR mixed [] [none, none] (by kernel_rfl) fun G23 R23 hG23 hR23 => ?_
      try simp [h1, h1_, h2, h2_]
      repeat' apply And.intro
      any_goals (first | exact hG23 _ (by kernel_rfl) | refine hR23 _ _ _ ?_ | omega | (unfold maxLen; omega) | (simp [h1, h1_, h2, h2_]; done) | (simp [h1, h1_, h2, h2_]; omega))
      refine AW.wk [(4, AV.int .i64 v3)] [] 0 (by simp [h1, h1_, h2, h2_]) (by simp [h1, h1_, h2, h2_]) (by simp) ?_
      simp only [Option.some.injEq] at hF
      subst hF
      refine AW.ret (hQ _ _ _ ?_ (matchO_0 ?_)).1
      · simp [Try.f44, h1, h1_, h2, h2_]
      · simp [h1, h1_, h2, h2_]
set_option maxHeartbeats 4000000 in
theorem w_made_Dice_Next (k : Nat) (v0 : (List Int)) (v1 : Int) (v2 : Int) (v3 : Int) (v4 : Int) (hF : made_Dice_Next k v0 v1 v2 = some (v3, v4)) :
    FCall Try.prog 35 [AV.ptr 0 0, AV.int .i64 v2] [.cells [AV.lst false false (List.map (AV.int .i64) v0), AV.int .i64 v1]] (AV.int .i64 v3) [some (.cells [AV.lst false false (List.map (AV.int .i64) v0), AV.int .i64 v4])] := by
  unfold made_Dice_Next at hF
  refine FCall.enter Try.func35 rfl (by simp) (by decide) (by simp) (by simp) (by simp) (by simp) (by simp) ?_
  intro c0 w0 Q h0 hQ
  refine AW.wk [(0, AV.ptr 0 0), (1, AV.int .i64 v2)] [(0, .cells [AV.lst false false (List.map (AV.int .i64) v0), AV.int .i64 v1])] 1 (by simp) (by simp) (by simp) ?_
  refine AW.seqR mixed [] [none] (by kernel_rfl) fun G9 R9 hG9 hR9 => ?_
  try simp
  repeat' apply And.intro
  any_goals (first | exact hG9 _ (by kernel_rfl) | refine hR9 _ _ _ ?_ | omega | (unfold maxLen; omega) | (simp; done) | (simp; omega))
  refine AW.wk [(0, AV.ptr 0 0), (1, AV.int .i64 v2)] [(0, .cells [AV.lst false false (List.map (AV.int .i64) v0), AV.int .i64 v1])] 1 (by simp) (by simp) (by simp) ?_
  refine AW.seq fun K12 hK12 => ?_
  refine AW.seqR mixed [] [none, none, none, none, none, none, none, none, none, none] (by kernel_rfl) fun G13 R13 hG13 hR13 => ?_
  try simp
  repeat' apply And.intro
  any_goals (first | exact hG13 _ (by kernel_rfl) | refine hR13 _ _ _ ?_ | omega | (unfold maxLen; omega) | (simp; done) | (simp; omega))
  refine AW.wk [(0, AV.ptr 0 0), (1, AV.int .i64 v2), (14, AV.bool (decide ((v0.length : Int) ≤ v1)))] [(0, .cells [AV.lst false false (List.map (AV.int .i64) v0), AV.int .i64 v1])] 1 (by simp) (by simp) (by simp) ?_
  by_cases h1 : (v0.length : Int) ≤ v1
  · replace hF := ite_t h1 hF
    have h1_ := h1
    try simp at h1_
    refine AW.condT (by decide) (by first | (simp [h1, h1_]; done) | (simp [h1, h1_]; omega)) ?_
    refine AW.seqR mixed [] [none] (by kernel_rfl) fun G14 R14 hG14 hR14 => ?_
    try simp [h1, h1_]
    repeat' apply And.intro
    any_goals (first | exact hG14 _ (by kernel_rfl) | refine hR14 _ _ _ ?_ | omega | (unfold maxLen; omega) | (simp [h1, h1_]; done) | (simp [h1, h1_]; omega))
    refine AW.wk [(4, AV.int .i64 0)] [(0, .cells [AV.lst false false (List.map (AV.int .i64) v0), AV.int .i64 v1])] 1 (by simp [h1, h1_]) (by simp [h1, h1_]) (by simp) ?_
    simp only [Option.some.injEq, Prod.mk.injEq] at hF
    obtain ⟨e0, e1⟩ := hF
    subst e0 e1
    refine AW.ret (hQ _ _ _ ?_ (matchO_0 ?_)).1
    · simp [Try.f35, h1, h1_]
    · simp [h1, h1_]
  · replace hF := ite_f h1 hF
    have h1_ := h1
    try simp at h1_
    refine AW.condF (by decide) (by first | (simp [h1, h1_]; done) | (simp [h1, h1_]; omega)) ?_
    refine AW.skip ?_
    refine hK12 _ _ _ ?_
    refine AW.seqR mixed [] [none, none, none, none, none, none, none, none] (by kernel_rfl) fun G15 R15 hG15 hR15 => ?_
    try simp [h1, h1_]
    repeat' apply And.intro
    any_goals (first | exact hG15 _ (by kernel_rfl) | refine hR15 _ _ _ ?_ | omega | (unfold maxLen; omega) | (simp [h1, h1_]; done) | (simp [h1, h1_]; omega))
    refine AW.wk [(0, AV.ptr 0 0), (1, AV.int .i64 v2)] [(0, .cells [AV.lst false false (List.map (AV.int .i64) v0), AV.int .i64 (IntKind.wrap .i64 (v1 + 1))])] 1 (by simp [h1, h1_]) (by simp [h1, h1_]) (by simp) ?_
    refine AW.seqR mixed [] [none, none, none, none, none, none, none, none, none, none, none, none, none, none] (by kernel_rfl) fun G16 R16 hG16 hR16 => ?_
    obtain ⟨v5, h2, h3, h4, hF⟩ := idx_elim hF
    have h4_ := get_of h4
    try simp at h4_
    have h3_ := h3
    try simp at h3_
    try simp [h1, h1_, h2, h3, h4, h4_, h3_]
    repeat' apply And.intro
    try any_goals (first | omega | (unfold maxLen; omega) | (simp [h1, h1_, h2, h3, h4, h4_, h3_]; done))
    obtain ⟨v6, h5, hF⟩ := bnd1_elim hF
    refine aCall_l (w_made_Mod k _ _ _ h5) (by simp) [] [] [] rfl (.cons (.same (by simp [h1, h1_, h2, h3, h4, h4_, h3_])) (.cons (.same (by simp [h1, h1_, h2, h3, h4, h4_, h3_])) .nil)) (by simp [h1, h1_, h2, h3, h4, h4_, h3_]) (by decide) (by simp) (by simp) (.inl rfl) (by simp) (by simp) ?_
    try simp [h1, h1_, h2, h3, h4, h4_, h3_]
    repeat' apply And.intro
    any_goals (first | exact hG16 _ (by kernel_rfl) | refine hR16 _ _ _ ?_ | omega | (unfold maxLen; omega) | (simp [h1, h1_, h2, h3, h4, h4_, h3_]; done) | (simp [h1, h1_, h2, h3, h4, h4_, h3_]; omega))
    refine AW.wk [(4, AV.int .i64 v6)] [(0, .cells [AV.lst false false (List.map (AV.int .i64) v0), AV.int .i64 (IntKind.wrap .i64 (v1 + 1))])] 1 (by simp [h1, h1_, h2, h3, h4, h4_, h3_]) (by simp [h1, h1_, h2, h3, h4, h4_, h3_]) (by simp) ?_
    simp only [Option.some.injEq, Prod.mk.injEq] at hF
    obtain ⟨e0, e1⟩ := hF
    subst e0 e1
    refine AW.ret (hQ _ _ _ ?_ (matchO_0 ?_)).1
    · simp [Try.f35, h1, h1_, h2, h3, h4, h4_, h3_]
    · simp [h1, h1_, h2, h3, h4, h4_, h3_]
set_option maxHeartbeats 4000000 in
theorem w_made_Dice_Some (k : Nat) (v0 : (List Int)) (v1 : Int) (v2 : Int) (v3 : (List Int)) (v4 : Int) (hF : made_Dice_Some k v0 v1 v2 = some (v3, v4)) :
    FCall Try.prog 22 [AV.ptr 0 0, AV.int .i64 v2] [.cells [AV.lst false false (List.map (AV.int .i64) v0), AV.int .i64 v1]] (AV.slc 1 0 1 v3.length false) [some (.cells [AV.lst false false (List.map (AV.int .i64) v0), AV.int .i64 v4]), some (.grow (List.map (AV.int .i64) v3))] := by
  unfold made_Dice_Some at hF
  refine FCall.enter Try.func22 rfl (by simp) (by decide) (by simp) (by simp) (by simp) (by simp) (by simp) ?_
  intro c0 w0 Q h0 hQ
  refine AW.wk [(0, AV.ptr 0 0), (1, AV.int .i64 v2)] [(0, .cells [AV.lst false false (List.map (AV.int .i64) v0), AV.int .i64 v1])] 1 (by simp) (by simp) (by simp) ?_
  refine AW.seqR mixed [] [none] (by kernel_rfl) fun G63 R63 hG63 hR63 => ?_
  try simp
  repeat' apply And.intro
  any_goals (first | exact hG63 _ (by kernel_rfl) | refine hR63 _ _ _ ?_ | omega | (unfold maxLen; omega) | (simp; done) | (simp; omega))
  refine AW.wk [(0, AV.ptr 0 0), (1, AV.int .i64 v2)] [(0, .cells [AV.lst false false (List.map (AV.int .i64) v0), AV.int .i64 v1])] 1 (by simp) (by simp) (by simp) ?_
  refine AW.seqR mixed [] [none] (by kernel_rfl) fun G64 R64 hG64 hR64 => ?_
  try simp
  repeat' apply And.intro
  any_goals (first | exact hG64 _ (by kernel_rfl) | refine hR64 _ _ _ ?_ | omega | (unfold maxLen; omega) | (simp; done) | (simp; omega))
  refine AW.wk [(0, AV.ptr 0 0), (1, AV.int .i64 v2), (5, AV.lst true true (List.map (AV.int .i64) ([] : List Int)))] [(0, .cells [AV.lst false false (List.map (AV.int .i64) v0), AV.int .i64 v1])] 1 (by simp) (by simp) (by simp) ?_
  refine AW.seq fun K94 hK94 => ?_
  refine AW.seqR mixed [] [none] (by kernel_rfl) fun G95 R95 hG95 hR95 => ?_
  try simp
  repeat' apply And.intro
  any_goals (first | exact hG95 _ (by kernel_rfl) | refine hR95 _ _ _ ?_ | omega | (unfold maxLen; omega) | (simp; done) | (simp; omega))
  refine AW.wk [(0, AV.ptr 0 0), (1, AV.int .i64 v2), (5, AV.lst true true (List.map (AV.int .i64) ([] : List Int))), (6, AV.int .i64 0)] [(0, .cells [AV.lst false false (List.map (AV.int .i64) v0), AV.int .i64 v1])] 1 (by simp) (by simp) (by simp) ?_
  refine AW.block ?_
  refine AW.own' 5 1 true (by simp) (by decide) ?_
  refine AW.loopF (α := (Int × Int × (List Int))) (fun n (v5, v6, v7) => made_Dice_Some.L1 k v0 v2 n v5 v6 v7 = some (v3, v4)) (fun (v5, v6, v7) => [(0, AV.ptr 0 0), (1, AV.int .i64 v2), (5, AV.slc 1 0 1 v7.length false), (6, AV.int .i64 v5)]) (fun (v5, v6, v7) => [(0, .cells [AV.lst false false (List.map (AV.int .i64) v0), AV.int .i64 v6]), (1, .grow (List.map (AV.int .i64) v7))]) 2 k ((0, v1, ([] : List Int))) hF (by simp) (by simp) (by simp) ?_
  rintro (_|n1) ⟨v5, v6, v7⟩ hF K114 hK114
  · try dsimp only at hF
    rw [made_Dice_Some.L1] at hF; cases hF
  try dsimp only at hF
  rw [made_Dice_Some.L1] at hF
  refine AW.seq fun K116 hK116 => ?_
  refine AW.seqR mixed [] [none, none, none] (by kernel_rfl) fun G117 R117 hG117 hR117 => ?_
  try simp
  repeat' apply And.intro
  any_goals (first | exact hG117 _ (by kernel_rfl) | refine hR117 _ _ _ ?_ | omega | (unfold maxLen; omega) | (simp; done) | (simp; omega))
  refine AW.wk [(0, AV.ptr 0 0), (1, AV.int .i64 v2), (5, AV.slc 1 0 1 v7.length false), (6, AV.int .i64 v5), (9, AV.bool (decide (v5 < v2)))] [(0, .cells [AV.lst false false (List.map (AV.int .i64) v0), AV.int .i64 v6]), (1, .grow (List.map (AV.int .i64) v7))] 2 (by simp) (by simp) (by simp) ?_
  by_cases h1 : v5 < v2
  · replace hF := ite_t h1 hF
    have h1_ := h1
    try simp at h1_
    refine AW.condT (by decide) (by first | (simp [h1, h1_]; done) | (simp [h1, h1_]; omega)) ?_
    refine AW.skip ?_
    refine hK116 _ _ _ ?_
    refine AW.midF (α := (Int × (List Int))) (fun (v8, v9) => made_Dice_Some.J2 k v5 (fun v5_ v6_ v7_ => made_Dice_Some.L1 k v0 v2 n1 v5_ v6_ v7_) v8 v9 = some (v3, v4)) (fun (v8, v9) => [(0, AV.ptr 0 0), (1, AV.int .i64 v2), (5, AV.slc 1 0 1 v9.length false), (6, AV.int .i64 v5)]) (fun (v8, v9) => [(0, .cells [AV.lst false false (List.map (AV.int .i64) v0), AV.int .i64 v8]), (1, .grow (List.map (AV.int .i64) v9))]) 2 (fun K121 hK121 => ?_) ?_
    · refine AW.block ?_
      refine AW.seqR mixed [] [none, none, none] (by kernel_rfl) fun G122 R122 hG122 hR122 => ?_
      try simp [h1, h1_]
      repeat' apply And.intro
      try any_goals (first | omega | (unfold maxLen; omega) | (simp [h1, h1_]; done))
      obtain ⟨v10, v11, h2, hF⟩ := bnd2_elim hF
      refine aCall_l (w_made_Dice_Next k _ _ _ _ _ h2) (by simp) [0] [] [0] rfl (.cons (.same (by simp [h1, h1_])) (.cons (.same (by simp [h1, h1_])) .nil)) (by simp [h1, h1_]) (by decide) (by simp) (by simp) (.inl rfl) (by simp) (by simp) ?_
      try simp [h1, h1_]
      repeat' apply And.intro
      any_goals (first | exact hG122 _ (by kernel_rfl) | refine hR122 _ _ _ ?_ | omega | (unfold maxLen; omega) | (simp [h1, h1_]; done) | (simp [h1, h1_]; omega))
      refine AW.wk [(0, AV.ptr 0 0), (1, AV.int .i64 v2), (5, AV.slc 1 0 1 v7.length false), (6, AV.int .i64 v5), (14, AV.bool (v10 == 0))] [(0, .cells [AV.lst false false (List.map (AV.int .i64) v0), AV.int .i64 v11]), (1, .grow (List.map (AV.int .i64) v7))] 2 (by simp [h1, h1_]) (by simp [h1, h1_]) (by simp) ?_
      by_cases h3 : v10 = 0
      · replace hF := ite_t h3 hF
        have h3q : v10 = 0 := h3
        have h3_ := eqb_t h3q
        have h3__ := neb_f h3q
        refine AW.condT (by decide) (by first | (simp [h1, h1_, h3_, h3__, h3q]; done) | (simp [h1, h1_, h3_, h3__, h3q]; omega)) ?_
        refine AW.region mixed [] [none, none, none, none, none] (by kernel_rfl) fun G123 R123 hG123 hR123 => ?_
        obtain ⟨h4, hF⟩ := chk_elim hF
        have h4_ := h4
        try simp at h4_
        try simp [h1, h1_, h3_, h3__, h3q, h4]
        repeat' apply And.intro
        any_goals (first | exact hG123 _ (by kernel_rfl) | refine hR123 _ _ _ ?_ | omega | (unfold maxLen; omega) | (simp [h1, h1_, h3_, h3__, h3q, h4]; done) | (simp [h1, h1_, h3_, h3__, h3q, h4]; omega))
        refine hK121 _ _ _ ?_
        refine Can.weak [(0, AV.ptr 0 0), (1, AV.int .i64 v2), (5, AV.slc 2 0 1 ((v7 ++ ([v5] : List Int)).length) false), (6, AV.int .i64 v5)] [(0, .cells [AV.lst false false (List.map (AV.int .i64) v0), AV.int .i64 v11]), (2, .grow (List.map (AV.int .i64) (v7 ++ ([v5] : List Int))))] 3 (by simp [h1, h1_, h3_, h3__, h3q, h4]) (by simp [h1, h1_, h3_, h3__, h3q, h4]) (by simp) ?_
        refine Can.ren (m := 1) h0 [(0, 0), (1, 2)] [(0, AV.ptr 0 0), (1, AV.int .i64 v2), (5, AV.slc 1 0 1 ((v7 ++ ([v5] : List Int)).length) false), (6, AV.int .i64 v5)] [(0, .cells [AV.lst false false (List.map (AV.int .i64) v0), AV.int .i64 v11]), (1, .grow (List.map (AV.int .i64) (v7 ++ ([v5] : List Int))))] 2 (by decide) (by decide) (by decide) rfl (by simp [h1, h1_, h3_, h3__, h3q, h4]) (by simp [h1, h1_, h3_, h3__, h3q, h4]) ?_
        exact Can.join ((v11, v7 ++ ([v5] : List Int))) hF (by simp [h1, h1_, h3_, h3__, h3q, h4]) (by simp [h1, h1_, h3_, h3__, h3q, h4]) (by simp)
      · replace hF := ite_f h3 hF
        have h3_ := eqb_f h3
        have h3__ := neb_t h3
        refine AW.condF (by decide) (by first | (simp [h1, h1_, h3, h3_, h3__]; done) | (simp [h1, h1_, h3, h3_, h3__]; omega)) ?_
        refine AW.skip ?_
        refine hK121 _ _ _ ?_
        exact Can.join ((v11, v7)) hF (by simp [h1, h1_, h3, h3_, h3__]) (by simp [h1, h1_, h3, h3_, h3__]) (by simp)
    · rintro ⟨v8, v9⟩ hF
      try dsimp only at hF
      unfold made_Dice_Some.J2 at hF
      refine AW.region mixed [] [none, none, none] (by kernel_rfl) fun G120 R120 hG120 hR120 => ?_
      try simp [h1, h1_]
      repeat' apply And.intro
      any_goals (first | exact hG120 _ (by kernel_rfl) | refine hR120 _ _ _ ?_ | omega | (unfold maxLen; omega) | (simp [h1, h1_]; done) | (simp [h1, h1_]; omega))
      refine hK114 _ _ _ ?_
      refine Can.weak [(0, AV.ptr 0 0), (1, AV.int .i64 v2), (5, AV.slc 1 0 1 v9.length false), (6, AV.int .i64 (IntKind.wrap .i64 (v5 + 1)))] [(0, .cells [AV.lst false false (List.map (AV.int .i64) v0), AV.int .i64 v8]), (1, .grow (List.map (AV.int .i64) v9))] 2 (by simp [h1, h1_]) (by simp [h1, h1_]) (by simp) ?_
      exact Can.next (k' := n1) ((IntKind.wrap .i64 (v5 + 1), v8, v9)) (by omega) hF (by simp [h1, h1_]) (by simp [h1, h1_]) (by simp)
  · replace hF := ite_f h1 hF
    have h1_ := h1
    try simp at h1_
    refine AW.condF (by decide) (by first | (simp [h1, h1_]; done) | (simp [h1, h1_]; omega)) ?_
    refine AW.exit ?_
    try simp
    refine hK94 _ _ _ ?_
    refine AW.seqR mixed [] [none, none] (by kernel_rfl) fun G124 R124 hG124 hR124 => ?_
    try simp [h1, h1_]
    repeat' apply And.intro
    any_goals (first | exact hG124 _ (by kernel_rfl) | refine hR124 _ _ _ ?_ | omega | (unfold maxLen; omega) | (simp [h1, h1_]; done) | (simp [h1, h1_]; omega))
    refine AW.wk [(4, AV.slc 1 0 1 v7.length false)] [(0, .cells [AV.lst false false (List.map (AV.int .i64) v0), AV.int .i64 v6]), (1, .grow (List.map (AV.int .i64) v7))] 2 (by simp [h1, h1_]) (by simp [h1, h1_]) (by simp) ?_
    simp only [Option.some.injEq, Prod.mk.injEq] at hF
    obtain ⟨e0, e1⟩ := hF
    subst e0 e1
    refine AW.ret (hQ _ _ _ ?_ (matchO_0 ?_)).1
    · simp [Try.f22, h1, h1_]
    · simp [h1, h1_]
set_option maxHeartbeats 4000000 in
theorem w_mill_Keys (k : Nat) (v0 : (List Int)) (v1 : Int) (v2 : Int) (v3 : (List Int)) (v4 : Int) (hF : mill_Keys k v0 v1 v2 = some (v3, v4)) :
    FCall Try.prog 21 [AV.ptr 0 0, AV.int .i64 v2] [.cells [AV.lst false false (List.map (AV.int .i64) v0), AV.int .i64 v1]] (AV.lst false false (List.map (AV.int .i64) v3)) [some (.cells [AV.lst false false (List.map (AV.int .i64) v0), AV.int .i64 v4])] := by
  unfold mill_Keys at hF
  refine FCall.enter Try.func21 rfl (by simp) (by decide) (by simp) (by simp) (by simp) (by simp) (by simp) ?_
  intro c0 w0 Q h0 hQ
  refine AW.wk [(0, AV.ptr 0 0), (1, AV.int .i64 v2)] [(0, .cells [AV.lst false false (List.map (AV.int .i64) v0), AV.int .i64 v1])] 1 (by simp) (by simp) (by simp) ?_
  refine AW.seqR mixed [] [none] (by kernel_rfl) fun G9 R9 hG9 hR9 => ?_
  try simp
  repeat' apply And.intro
  any_goals (first | exact hG9 _ (by kernel_rfl) | refine hR9 _ _ _ ?_ | omega | (unfold maxLen; omega) | (simp; done) | (simp; omega))
  refine AW.wk [(0, AV.ptr 0 0), (1, AV.int .i64 v2)] [(0, .cells [AV.lst false false (List.map (AV.int .i64) v0), AV.int .i64 v1])] 1 (by simp) (by simp) (by simp) ?_
  refine AW.seqR mixed [] [none, none, none, none] (by kernel_rfl) fun G10 R10 hG10 hR10 => ?_
  try simp
  repeat' apply And.intro
  try any_goals (first | omega | (unfold maxLen; omega) | (simp; done))
  obtain ⟨v5, v6, h1, hF⟩ := bnd2_elim hF
  refine aCall_l (w_made_Dice_Some k _ _ _ _ _ h1) (by simp) [0] [] [0] rfl (.cons (.same (by simp)) (.cons (.same (by simp)) .nil)) (by simp) (by decide) (by simp) (by simp) (.inl rfl) (by simp) (by simp) ?_
  try simp
  repeat' apply And.intro
  any_goals (first | exact hG10 _ (by kernel_rfl) | refine hR10 _ _ _ ?_ | omega | (unfold maxLen; omega) | (simp; done) | (simp; omega))
  refine AW.wk [(0, AV.ptr 0 0), (1, AV.int .i64 v2), (5, AV.slc 1 0 1 v5.length false)] [(0, .cells [AV.lst false false (List.map (AV.int .i64) v0), AV.int .i64 v6]), (1, .grow (List.map (AV.int .i64) v5))] 2 (by simp) (by simp) (by simp) ?_
  refine AW.frz 1 (o := .grow (List.map (AV.int .i64) v5)) (by simp) rfl [(5, AV.lst false false (List.map (AV.int .i64) v5))] [] ⟨(.l (by simp) (by simp) (by simp) (by simp)), trivial⟩ trivial ?_
  refine AW.wk [(0, AV.ptr 0 0), (1, AV.int .i64 v2), (5, AV.lst false false (List.map (AV.int .i64) v5))] [(0, .cells [AV.lst false false (List.map (AV.int .i64) v0), AV.int .i64 v6])] 2 (by simp) (by simp) (by simp) ?_
  refine AW.midF (α := ((List Int) × Int)) (fun (v7, v8) => mill_Keys.J1 k v7 v8 = some (v3, v4)) (fun (v7, v8) => [(5, AV.lst false false (List.map (AV.int .i64) v7))]) (fun (v7, v8) => [(0, .cells [AV.lst false false (List.map (AV.int .i64) v0), AV.int .i64 v8])]) 1 (fun K14 hK14 => ?_) ?_
  · refine AW.seqR mixed [] [none, none, none] (by kernel_rfl) fun G15 R15 hG15 hR15 => ?_
    try simp
    repeat' apply And.intro
    any_goals (first | exact hG15 _ (by kernel_rfl) | refine hR15 _ _ _ ?_ | omega | (unfold maxLen; omega) | (simp; done) | (simp; omega))
    refine AW.wk [(0, AV.ptr 0 0), (1, AV.int .i64 v2), (5, AV.lst false false (List.map (AV.int .i64) v5)), (11, AV.bool ((v5.length : Int) == 0))] [(0, .cells [AV.lst false false (List.map (AV.int .i64) v0), AV.int .i64 v6])] 2 (by simp) (by simp) (by simp) ?_
    by_cases h2 : (v5.length : Int) = 0
    · replace hF := ite_t h2 hF
      have h2q : (v5.length : Int) = 0 := h2
      have h2_ := eqb_t h2q
      have h2__ := neb_f h2q
      refine AW.condT (by decide) (by first | (simp [h2_, h2__, h2q]; done) | (simp [h2_, h2__, h2q]; omega)) ?_
      refine AW.region mixed [] [none, none, none, none, none] (by kernel_rfl) fun G16 R16 hG16 hR16 => ?_
      try simp [h2_, h2__, h2q]
      repeat' apply And.intro
      try any_goals (first | omega | (unfold maxLen; omega) | (simp [h2_, h2__, h2q]; done))
      obtain ⟨v9, v10, h3, hF⟩ := bnd2_elim hF
      refine aCall_l (w_made_Dice_Next k _ _ _ _ _ h3) (by simp) [0] [] [0] rfl (.cons (.same (by simp [h2_, h2__, h2q])) (.cons (.same (by simp [h2_, h2__, h2q])) .nil)) (by simp [h2_, h2__, h2q]) (by decide) (by simp) (by simp) (.inl rfl) (by simp) (by simp) ?_
      try simp [h2_, h2__, h2q]
      repeat' apply And.intro
      any_goals (first | exact hG16 _ (by kernel_rfl) | refine hR16 _ _ _ ?_ | omega | (unfold maxLen; omega) | (simp [h2_, h2__, h2q]; done) | (simp [h2_, h2__, h2q]; omega))
      refine hK14 _ _ _ ?_
      refine Can.weak [(5, AV.lst false true (List.map (AV.int .i64) ([v9] : List Int)))] [(0, .cells [AV.lst false false (List.map (AV.int .i64) v0), AV.int .i64 v10])] 2 (by simp [h2_, h2__, h2q]) (by simp [h2_, h2__, h2q]) (by simp) ?_
      refine Can.ren (m := 1) h0 [(0, 0)] [(5, AV.lst false true (List.map (AV.int .i64) ([v9] : List Int)))] [(0, .cells [AV.lst false false (List.map (AV.int .i64) v0), AV.int .i64 v10])] 1 (by decide) (by decide) (by decide) rfl (by simp [h2_, h2__, h2q]) (by simp [h2_, h2__, h2q]) ?_
      refine Can.flg [(5, AV.lst false false (List.map (AV.int .i64) ([v9] : List Int)))] [] ⟨(.lst (by simp)), trivial⟩ trivial (by simp) ?_
      exact Can.join ((([v9] : List Int), v10)) hF (by simp [h2_, h2__, h2q]) (by simp [h2_, h2__, h2q]) (by simp)
    · replace hF := ite_f h2 hF
      have h2_ := eqb_f h2
      have h2__ := neb_t h2
      refine AW.condF (by decide) (by first | (simp [h2, h2_, h2__]; done) | (simp [h2, h2_, h2__]; omega)) ?_
      refine AW.skip ?_
      refine hK14 _ _ _ ?_
      refine Can.ren (m := 1) h0 [(0, 0)] [(5, AV.lst false false (List.map (AV.int .i64) v5))] [(0, .cells [AV.lst false false (List.map (AV.int .i64) v0), AV.int .i64 v6])] 1 (by decide) (by decide) (by decide) rfl (by simp [h2, h2_, h2__]) (by simp [h2, h2_, h2__]) ?_
      exact Can.join ((v5, v6)) hF (by simp [h2, h2_, h2__]) (by simp [h2, h2_, h2__]) (by simp)
  · rintro ⟨v7, v8⟩ hF
    try dsimp only at hF
    unfold mill_Keys.J1 at hF
    refine AW.seqR mixed [] [none, none] (by kernel_rfl) fun G13 R13 hG13 hR13 => ?_
    try simp
    repeat' apply And.intro
    any_goals (first | exact hG13 _ (by kernel_rfl) | refine hR13 _ _ _ ?_ | omega | (unfold maxLen; omega) | (simp; done) | (simp; omega))
    refine AW.wk [(4, AV.lst false false (List.map (AV.int .i64) v7))] [(0, .cells [AV.lst false false (List.map (AV.int .i64) v0), AV.int .i64 v8])] 1 (by simp) (by simp) (by simp) ?_
    simp only [Option.some.injEq, Prod.mk.injEq] at hF
    obtain ⟨e0, e1⟩ := hF
    subst e0 e1
    refine AW.ret (hQ _ _ _ ?_ (matchO_0 ?_)).1
    · simp [Try.f21]
    · simp
set_option maxHeartbeats 4000000 in
theorem w_ref24_Has (k : Nat) (v0 : (List Int)) (v1 : Int) (v2 : Bool) (hF : ref24_Has k v0 v1 = some v2) :
    FCall Try.prog 23 [AV.lst false false (List.map (AV.int .i64) v0), AV.int .i64 v1] [] (AV.bool v2) [] := by
  unfold ref24_Has at hF
  refine FCall.enter Try.func23 rfl (by simp) (by decide) (by simp) (by simp) (by simp) (by simp) (by simp) ?_
  intro c0 w0 Q h0 hQ
  refine AW.wk [(0, AV.lst false false (List.map (AV.int .i64) v0)), (1, AV.int .i64 v1)] [] 0 (by simp) (by simp) (by simp) ?_
  refine AW.seqR mixed [] [none] (by kernel_rfl) fun G62 R62 hG62 hR62 => ?_
  try simp
  repeat' apply And.intro
  any_goals (first | exact hG62 _ (by kernel_rfl) | refine hR62 _ _ _ ?_ | omega | (unfold maxLen; omega) | (simp; done) | (simp; omega))
  refine AW.wk [(0, AV.lst false false (List.map (AV.int .i64) v0)), (1, AV.int .i64 v1)] [] 0 (by simp) (by simp) (by simp) ?_
  refine AW.seq fun K92 hK92 => ?_
  refine AW.seqR mixed [] [none] (by kernel_rfl) fun G93 R93 hG93 hR93 => ?_
  try simp
  repeat' apply And.intro
  any_goals (first | exact hG93 _ (by kernel_rfl) | refine hR93 _ _ _ ?_ | omega | (unfold maxLen; omega) | (simp; done) | (simp; omega))
  refine AW.wk [(0, AV.lst false false (List.map (AV.int .i64) v0)), (1, AV.int .i64 v1), (5, AV.int .i64 0)] [] 0 (by simp) (by simp) (by simp) ?_
  refine AW.block ?_
  refine AW.loopF (α := Int) (fun n v3 => ref24_Has.L1 k v0 v1 n v3 = some v2) (fun v3 => [(0, AV.lst false false (List.map (AV.int .i64) v0)), (1, AV.int .i64 v1), (5, AV.int .i64 v3)]) (fun v3 => []) 0 k (0) hF (by simp) (by simp) (by simp) ?_
  rintro (_|n1) v3 hF K112 hK112
  · try dsimp only at hF
    rw [ref24_Has.L1] at hF; cases hF
  try dsimp only at hF
  rw [ref24_Has.L1] at hF
  refine AW.seq fun K114 hK114 => ?_
  refine AW.seqR mixed [] [none, none, none, none] (by kernel_rfl) fun G115 R115 hG115 hR115 => ?_
  try simp
  repeat' apply And.intro
  any_goals (first | exact hG115 _ (by kernel_rfl) | refine hR115 _ _ _ ?_ | omega | (unfold maxLen; omega) | (simp; done) | (simp; omega))
  refine AW.wk [(0, AV.lst false false (List.map (AV.int .i64) v0)), (1, AV.int .i64 v1), (5, AV.int .i64 v3), (9, AV.bool (decide (v3 < (v0.length : Int))))] [] 0 (by simp) (by simp) (by simp) ?_
  by_cases h1 : v3 < (v0.length : Int)
  · replace hF := ite_t h1 hF
    have h1_ := h1
    try simp at h1_
    refine AW.condT (by decide) (by first | (simp [h1, h1_]; done) | (simp [h1, h1_]; omega)) ?_
    refine AW.skip ?_
    refine hK114 _ _ _ ?_
    refine AW.seq fun K118 hK118 => ?_
    refine AW.block ?_
    refine AW.seqR mixed [] [none, none, none, none, none, none] (by kernel_rfl) fun G119 R119 hG119 hR119 => ?_
    obtain ⟨v4, h2, h3, h4, hF⟩ := idx_elim hF
    have h4_ := get_of h4
    try simp at h4_
    have h3_ := h3
    try simp at h3_
    try simp [h1, h1_, h2, h3, h4, h4_, h3_]
    repeat' apply And.intro
    any_goals (first | exact hG119 _ (by kernel_rfl) | refine hR119 _ _ _ ?_ | omega | (unfold maxLen; omega) | (simp [h1, h1_, h2, h3, h4, h4_, h3_]; done) | (simp [h1, h1_, h2, h3, h4, h4_, h3_]; omega))
    refine AW.wk [(0, AV.lst false false (List.map (AV.int .i64) v0)), (1, AV.int .i64 v1), (5, AV.int .i64 v3), (17, AV.bool (v4 == v1))] [] 0 (by simp [h1, h1_, h2, h3, h4, h4_, h3_]) (by simp [h1, h1_, h2, h3, h4, h4_, h3_]) (by simp) ?_
    by_cases h5 : v4 = v1
    · replace hF := ite_t h5 hF
      have h5q : v4 = v1 := h5
      have h5_ := eqb_t h5q
      have h5__ := neb_f h5q
      refine AW.condT (by decide) (by first | (simp [h1, h1_, h2, h3, h4, h4_, h3_, h5_, h5__]; done) | (simp [h1, h1_, h2, h3, h4, h4_, h3_, h5_, h5__]; omega)) ?_
      refine AW.seqR mixed [] [none] (by kernel_rfl) fun G120 R120 hG120 hR120 => ?_
      try simp [h1, h1_, h2, h3, h4, h4_, h3_, h5_, h5__]
      repeat' apply And.intro
      any_goals (first | exact hG120 _ (by kernel_rfl) | refine hR120 _ _ _ ?_ | omega | (unfold maxLen; omega) | (simp [h1, h1_, h2, h3, h4, h4_, h3_, h5_, h5__]; done) | (simp [h1, h1_, h2, h3, h4, h4_, h3_, h5_, h5__]; omega))
      refine AW.wk [(4, AV.bool true)] [] 0 (by simp [h1, h1_, h2, h3, h4, h4_, h3_, h5_, h5__]) (by simp [h1, h1_, h2, h3, h4, h4_, h3_, h5_, h5__]) (by simp) ?_
      simp only [Option.some.injEq] at hF
      subst hF
      refine AW.ret (hQ _ _ _ ?_ (matchO_0 ?_)).1
      · simp [Try.f23, h1, h1_, h2, h3, h4, h4_, h3_, h5_, h5__]
      · simp [h1, h1_, h2, h3, h4, h4_, h3_, h5_, h5__]
    · replace hF := ite_f h5 hF
      have h5_ := eqb_f h5
      have h5__ := neb_t h5
      refine AW.condF (by decide) (by first | (simp [h1, h1_, h2, h3, h4, h4_, h3_, h5, h5_, h5__]; done) | (simp [h1, h1_, h2, h3, h4, h4_, h3_, h5, h5_, h5__]; omega)) ?_
      refine AW.skip ?_
      refine hK118 _ _ _ ?_
      refine AW.region mixed [] [none, none, none] (by kernel_rfl) fun G121 R121 hG121 hR121 => ?_
      try simp [h1, h1_, h2, h3, h4, h4_, h3_, h5, h5_, h5__]
      repeat' apply And.intro
      any_goals (first | exact hG121 _ (by kernel_rfl) | refine hR121 _ _ _ ?_ | omega | (unfold maxLen; omega) | (simp [h1, h1_, h2, h3, h4, h4_, h3_, h5, h5_, h5__]; done) | (simp [h1, h1_, h2, h3, h4, h4_, h3_, h5, h5_, h5__]; omega))
      refine hK112 _ _ _ ?_
      refine Can.weak [(0, AV.lst false false (List.map (AV.int .i64) v0)), (1, AV.int .i64 v1), (5, AV.int .i64 (IntKind.wrap .i64 (v3 + 1)))] [] 0 (by simp [h1, h1_, h2, h3, h4, h4_, h3_, h5, h5_, h5__]) (by simp [h1, h1_, h2, h3, h4, h4_, h3_, h5, h5_, h5__]) (by simp) ?_
      exact Can.next (k' := n1) (IntKind.wrap .i64 (v3 + 1)) (by omega) hF (by simp [h1, h1_, h2, h3, h4, h4_, h3_, h5, h5_, h5__]) (by simp [h1, h1_, h2, h3, h4, h4_, h3_, h5, h5_, h5__]) (by simp)
  · replace hF := ite_f h1 hF
    have h1_ := h1
    try simp at h1_
    refine AW.condF (by decide) (by first | (simp [h1, h1_]; done) | (simp [h1, h1_]; omega)) ?_
    refine AW.exit ?_
    try simp
    refine hK92 _ _ _ ?_
    refine AW.seqR mixed [] [none] (by kernel_rfl) fun G122 R122 hG122 hR122 => ?_
    try simp [h1, h1_]
    repeat' apply And.intro
    any_goals (first | exact hG122 _ (by kernel_rfl) | refine hR122 _ _ _ ?_ | omega | (unfold maxLen; omega) | (simp [h1, h1_]; done) | (simp [h1, h1_]; omega))
    refine AW.wk [(4, AV.bool false)] [] 0 (by simp [h1, h1_]) (by simp [h1, h1_]) (by simp) ?_
    simp only [Option.some.injEq] at hF
    subst hF
    refine AW.ret (hQ _ _ _ ?_ (matchO_0 ?_)).1
    · simp [Try.f23, h1, h1_]
    · simp [h1, h1_]
end Go.TF
