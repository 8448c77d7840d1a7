/- Walks: the Go text computes the Lean functions (printed by a program of our own). -/
import Derived.Test.YtocmgnljgemjkaaPu
import Derived.Test.YtocmgnljgemjkaaAbsT
import Derived.Test.YtocmgnljgemjkaaWa0
import Derived.Test.YtocmgnljgemjkaaWa8
import Derived.Test.YtocmgnljgemjkaaWa13
import Derived.Test.YtocmgnljgemjkaaWa14
set_option linter.unusedVariables false
set_option linter.unusedSimpArgs false
set_option maxRecDepth 100000
namespace Go.TF
open Go Go.Abs Go.Proofs Go.Proofs.YtocmgnljgemjkaaT
set_option maxHeartbeats 4000000 in
theorem w_law24_awake (k : Nat) (v0 : Bool) (hF : law24_awake k = some v0) :
    FCall Try.prog 48 [] [] (AV.bool v0) [] := by
  unfold law24_awake at hF
  refine FCall.enter Try.func48 rfl (by simp) (by decide) (by simp) (by simp) (by simp) (by simp) (by simp) ?_
  intro c0 w0 Q h0 hQ
  refine AW.wk [] [] 0 (by simp) (by simp) (by simp) ?_
  refine AW.seqR mixed [] [none] (by kernel_rfl) fun G5 R5 hG5 hR5 => ?_
  try simp
  repeat' apply And.intro
  any_goals (first | exact hG5 _ (by kernel_rfl) | refine hR5 _ _ _ ?_ | omega | (unfold maxLen; omega) | (simp; done) | (simp; omega))
  refine AW.wk [] [] 0 (by simp) (by simp) (by simp) ?_
  refine AW.seqR mixed [] [none, none, none, none, none, none, none] (by kernel_rfl) fun G6 R6 hG6 hR6 => ?_
  try simp
  repeat' apply And.intro
  try any_goals (first | omega | (unfold maxLen; omega) | (simp; done))
  obtain ⟨v1, v2, h1, hF⟩ := bnd2_elim hF
  refine aCall_l (w_roster_Encode k _ _ _ h1) (by simp) [] [] [] rfl (.cons (Coe.fl (by simp)) .nil) (by simp) (by decide) (by simp) (by simp) (.inl rfl) (by simp) (by simp) ?_
  try simp
  repeat' apply And.intro
  any_goals (first | exact hG6 _ (by kernel_rfl) | refine hR6 _ _ _ ?_ | omega | (unfold maxLen; omega) | (simp; done) | (simp; omega))
  refine AW.wk [(1, AV.lst false false (List.map (AV.int .i64) v1)), (2, AV.int .i64 v2)] [] 0 (by simp) (by simp) (by simp) ?_
  refine AW.seqR mixed [] [none, none, none, none, none, none, none] (by kernel_rfl) fun G7 R7 hG7 hR7 => ?_
  try simp
  repeat' apply And.intro
  try any_goals (first | omega | (unfold maxLen; omega) | (simp; done))
  obtain ⟨v3, v4, h2, hF⟩ := bnd2_elim hF
  refine aCall_l (w_roster_Decode k _ _ _ h2) (by simp) [] [] [] rfl (.cons (.same (by simp)) .nil) (by simp) (by decide) (by simp) (by simp) (.inl rfl) (by simp) (by simp) ?_
  try simp
  repeat' apply And.intro
  any_goals (first | exact hG7 _ (by kernel_rfl) | refine hR7 _ _ _ ?_ | omega | (unfold maxLen; omega) | (simp; done) | (simp; omega))
  refine AW.wk [(1, AV.lst false false (List.map (AV.int .i64) v1)), (2, AV.int .i64 v2), (3, AV.slc 0 0 1 v3.length false), (4, AV.int .i64 v4)] [(0, .grow (List.map (AV.int .i64) v3))] 1 (by simp) (by simp) (by simp) ?_
  refine AW.frz 0 (o := .grow (List.map (AV.int .i64) v3)) (by simp) rfl [(3, AV.lst false false (List.map (AV.int .i64) v3))] [] ⟨(.l (by simp) (by simp) (by simp) (by simp)), trivial⟩ trivial ?_
  refine AW.wk [(1, AV.lst false false (List.map (AV.int .i64) v1)), (2, AV.int .i64 v2), (3, AV.lst false false (List.map (AV.int .i64) v3)), (4, AV.int .i64 v4)] [] 1 (by simp) (by simp) (by simp) ?_
  refine AW.seqR mixed [] [none, none, none, some (17, true), some (17, true), none, none, some (21, true), some (21, true), some (21, true), none, none, some (26, true), some (26, true), some (26, true), none, none] (by kernel_rfl) fun G8 R8 hG8 hR8 => ?_
  by_cases h3 : v2 = 0
  · replace hF := ite_t h3 hF
    have h3q : v2 = 0 := h3
    have h3_ := eqb_t h3q
    have h3__ := neb_f h3q
    by_cases h4 : v4 = 0
    · replace hF := ite_t h4 hF
      have h4q : v4 = 0 := h4
      have h4_ := eqb_t h4q
      have h4__ := neb_f h4q
      try simp [h3_, h3__, h3q, h4_, h4__, h4q]
      repeat' apply And.intro
      try any_goals (first | omega | (unfold maxLen; omega) | (simp [h3_, h3__, h3q, h4_, h4__, h4q]; done))
      obtain ⟨v5, h5, hF⟩ := bnd1_elim hF
      refine aCall_l (w_ref23_SameInts k _ _ _ h5) (by simp) [] [] [] rfl (.cons (.same (by simp [h3_, h3__, h3q, h4_, h4__, h4q])) (.cons (Coe.fl (by simp [h3_, h3__, h3q, h4_, h4__, h4q])) .nil)) (by simp [h3_, h3__, h3q, h4_, h4__, h4q]) (by decide) (by simp) (by simp) (.inl rfl) (by simp) (by simp) ?_
      by_cases h6 : v5 = true
      · replace hF := ite_t h6 hF
        have h6_ := h6
        try simp at h6_
        try simp [h3_, h3__, h3q, h4_, h4__, h4q, h6, h6_]
        repeat' apply And.intro
        try any_goals (first | omega | (unfold maxLen; omega) | (simp [h3_, h3__, h3q, h4_, h4__, h4q, h6, h6_]; done))
        obtain ⟨v6, h7, hF⟩ := bnd1_elim hF
        refine aCall_l (w_ref23_SameInts k _ _ _ h7) (by simp) [] [] [] rfl (.cons (.same (by simp [h3_, h3__, h3q, h4_, h4__, h4q, h6, h6_])) (.cons (Coe.fl (by simp [h3_, h3__, h3q, h4_, h4__, h4q, h6, h6_])) .nil)) (by simp [h3_, h3__, h3q, h4_, h4__, h4q, h6, h6_]) (by decide) (by simp) (by simp) (.inl rfl) (by simp) (by simp) ?_
        try simp [h3_, h3__, h3q, h4_, h4__, h4q, h6, h6_]
        repeat' apply And.intro
        any_goals (first | exact hG8 _ (by kernel_rfl) | refine hR8 _ _ _ ?_ | omega | (unfold maxLen; omega) | (simp [h3_, h3__, h3q, h4_, h4__, h4q, h6, h6_]; done) | (simp [h3_, h3__, h3q, h4_, h4__, h4q, h6, h6_]; omega))
        refine AW.wk [(0, AV.bool v6)] [] 1 (by simp [h3_, h3__, h3q, h4_, h4__, h4q, h6, h6_]) (by simp [h3_, h3__, h3q, h4_, h4__, h4q, h6, h6_]) (by simp) ?_
        simp only [Option.some.injEq] at hF
        subst hF
        refine AW.ret (hQ _ _ _ ?_ (matchO_0 ?_)).1
        · simp [Try.f48, h3_, h3__, h3q, h4_, h4__, h4q, h6, h6_]
        · simp [h3_, h3__, h3q, h4_, h4__, h4q, h6, h6_]
      · replace hF := ite_f h6 hF
        have h6_ := h6
        try simp at h6_
        try simp [h3_, h3__, h3q, h4_, h4__, h4q, h6, h6_]
        repeat' apply And.intro
        any_goals (first | exact hG8 _ (by kernel_rfl) | refine hR8 _ _ _ ?_ | omega | (unfold maxLen; omega) | (simp [h3_, h3__, h3q, h4_, h4__, h4q, h6, h6_]; done) | (simp [h3_, h3__, h3q, h4_, h4__, h4q, h6, h6_]; omega))
        refine AW.wk [(0, AV.bool false)] [] 1 (by simp [h3_, h3__, h3q, h4_, h4__, h4q, h6, h6_]) (by simp [h3_, h3__, h3q, h4_, h4__, h4q, h6, h6_]) (by simp) ?_
        simp only [Option.some.injEq] at hF
        subst hF
        refine AW.ret (hQ _ _ _ ?_ (matchO_0 ?_)).1
        · simp [Try.f48, h3_, h3__, h3q, h4_, h4__, h4q, h6, h6_]
        · simp [h3_, h3__, h3q, h4_, h4__, h4q, h6, h6_]
    · replace hF := ite_f h4 hF
      have h4_ := eqb_f h4
      have h4__ := neb_t h4
      try simp [h3_, h3__, h3q, h4, h4_, h4__]
      repeat' apply And.intro
      any_goals (first | exact hG8 _ (by kernel_rfl) | refine hR8 _ _ _ ?_ | omega | (unfold maxLen; omega) | (simp [h3_, h3__, h3q, h4, h4_, h4__]; done) | (simp [h3_, h3__, h3q, h4, h4_, h4__]; omega))
      refine AW.wk [(0, AV.bool false)] [] 1 (by simp [h3_, h3__, h3q, h4, h4_, h4__]) (by simp [h3_, h3__, h3q, h4, h4_, h4__]) (by simp) ?_
      simp only [Option.some.injEq] at hF
      subst hF
      refine AW.ret (hQ _ _ _ ?_ (matchO_0 ?_)).1
      · simp [Try.f48, h3_, h3__, h3q, h4, h4_, h4__]
      · simp [h3_, h3__, h3q, h4, h4_, h4__]
  · replace hF := ite_f h3 hF
    have h3_ := eqb_f h3
    have h3__ := neb_t h3
    try simp [h3, h3_, h3__]
    repeat' apply And.intro
    any_goals (first | exact hG8 _ (by kernel_rfl) | refine hR8 _ _ _ ?_ | omega | (unfold maxLen; omega) | (simp [h3, h3_, h3__]; done) | (simp [h3, h3_, h3__]; omega))
    refine AW.wk [(0, AV.bool false)] [] 1 (by simp [h3, h3_, h3__]) (by simp [h3, h3_, h3__]) (by simp) ?_
    simp only [Option.some.injEq] at hF
    subst hF
    refine AW.ret (hQ _ _ _ ?_ (matchO_0 ?_)).1
    · simp [Try.f48, h3, h3_, h3__]
    · simp [h3, h3_, h3__]
set_option maxHeartbeats 4000000 in
theorem w_committee_Draw (k : Nat) (v0 : (List Int)) (v1 : (List Int)) (v2 : Int) (v3 : (List Int)) (v4 : Int) (hF : committee_Draw k v0 v1 v2 = some (v3, v4)) :
    FCall Try.prog 51 [AV.lst false false (List.map (AV.int .i64) v0), AV.lst false false (List.map (AV.int .i64) v1), AV.int .i64 v2] [] (AV.tup [AV.slc 0 0 1 v3.length false, AV.int .i64 v4]) [some (.grow (List.map (AV.int .i64) v3))] := by
  unfold committee_Draw at hF
  refine FCall.enter Try.func51 rfl (by simp) (by decide) (by simp) (by simp) (by simp) (by simp) (by simp) ?_
  intro c0 w0 Q h0 hQ
  refine AW.wk [(0, AV.lst false false (List.map (AV.int .i64) v0)), (1, AV.lst false false (List.map (AV.int .i64) v1)), (2, AV.int .i64 v2)] [] 0 (by simp) (by simp) (by simp) ?_
  refine AW.seqR mixed [] [none, none] (by kernel_rfl) fun G157 R157 hG157 hR157 => ?_
  try simp
  repeat' apply And.intro
  any_goals (first | exact hG157 _ (by kernel_rfl) | refine hR157 _ _ _ ?_ | omega | (unfold maxLen; omega) | (simp; done) | (simp; omega))
  refine AW.wk [(0, AV.lst false false (List.map (AV.int .i64) v0)), (1, AV.lst false false (List.map (AV.int .i64) v1)), (2, AV.int .i64 v2)] [] 0 (by simp) (by simp) (by simp) ?_
  refine AW.seq fun K160 hK160 => ?_
  refine AW.seqR mixed [] [none, none, none] (by kernel_rfl) fun G161 R161 hG161 hR161 => ?_
  try simp
  repeat' apply And.intro
  try any_goals (first | omega | (unfold maxLen; omega) | (simp; done))
  obtain ⟨v5, h1, hF⟩ := bnd1_elim hF
  refine aCall_l (w_roster_Valid k _ _ h1) (by simp) [] [] [] rfl (.cons (.same (by simp)) .nil) (by simp) (by decide) (by simp) (by simp) (.inl rfl) (by simp) (by simp) ?_
  try simp
  repeat' apply And.intro
  any_goals (first | exact hG161 _ (by kernel_rfl) | refine hR161 _ _ _ ?_ | omega | (unfold maxLen; omega) | (simp; done) | (simp; omega))
  refine AW.wk [(0, AV.lst false false (List.map (AV.int .i64) v0)), (1, AV.lst false false (List.map (AV.int .i64) v1)), (2, AV.int .i64 v2), (16, AV.bool (!v5))] [] 0 (by simp) (by simp) (by simp) ?_
  by_cases h2 : (!v5) = true
  · replace hF := ite_t h2 hF
    have h2_ := h2
    try simp at h2_
    refine AW.condT (by decide) (by first | (simp [h2, h2_]; done) | (simp [h2, h2_]; omega)) ?_
    refine AW.seqR mixed [] [none, none] (by kernel_rfl) fun G162 R162 hG162 hR162 => ?_
    try simp [h2, h2_]
    repeat' apply And.intro
    any_goals (first | exact hG162 _ (by kernel_rfl) | refine hR162 _ _ _ ?_ | omega | (unfold maxLen; omega) | (simp [h2, h2_]; done) | (simp [h2, h2_]; omega))
    refine AW.wk [(6, AV.lst true true (List.map (AV.int .i64) ([] : List Int))), (7, AV.int .i64 43)] [] 0 (by simp [h2, h2_]) (by simp [h2, h2_]) (by simp) ?_
    refine AW.own' 6 1 true (by simp [h2, h2_]) (by decide) ?_
    simp only [Option.some.injEq, Prod.mk.injEq] at hF
    obtain ⟨e0, e1⟩ := hF
    subst e0 e1
    refine AW.ret (hQ _ _ _ ?_ (matchO_0 ?_)).1
    · simp [Try.f51, h2, h2_]
    · simp [h2, h2_]
  · replace hF := ite_f h2 hF
    have h2_ := h2
    try simp at h2_
    refine AW.condF (by decide) (by first | (simp [h2, h2_]; done) | (simp [h2, h2_]; omega)) ?_
    refine AW.skip ?_
    refine hK160 _ _ _ ?_
    refine AW.seqR mixed [] [none, none, none, none, none] (by kernel_rfl) fun G163 R163 hG163 hR163 => ?_
    obtain ⟨v6, h3, hF⟩ := let1_elim hF
    have h3_ := h3
    try simp at h3_
    try simp [h2, h2_, h3, h3_]
    repeat' apply And.intro
    any_goals (first | exact hG163 _ (by kernel_rfl) | refine hR163 _ _ _ ?_ | omega | (unfold maxLen; omega) | (simp [h2, h2_, h3, h3_]; done) | (simp [h2, h2_, h3, h3_]; omega))
    refine AW.wk [(0, AV.lst false false (List.map (AV.int .i64) v0)), (1, AV.lst false false (List.map (AV.int .i64) v1)), (2, AV.int .i64 v2), (8, AV.int .i64 v6)] [] 0 (by simp [h2, h2_, h3, h3_]) (by simp [h2, h2_, h3, h3_]) (by simp) ?_
    refine AW.seq fun K168 hK168 => ?_
    refine AW.seqR mixed [] [none, none, none, some (23, false), some (23, false), none, none, some (27, false), some (27, false), some (27, false), some (27, false), none] (by kernel_rfl) fun G169 R169 hG169 hR169 => ?_
    by_cases h4 : v2 < 1
    · replace hF := ite_t h4 hF
      have h4_ := h4
      try simp at h4_
      try simp [h2, h2_, h3, h3_, h4, h4_]
      repeat' apply And.intro
      any_goals (first | exact hG169 _ (by kernel_rfl) | refine hR169 _ _ _ ?_ | omega | (unfold maxLen; omega) | (simp [h2, h2_, h3, h3_, h4, h4_]; done) | (simp [h2, h2_, h3, h3_, h4, h4_]; omega))
      refine AW.wk [(0, AV.lst false false (List.map (AV.int .i64) v0)), (1, AV.lst false false (List.map (AV.int .i64) v1)), (8, AV.int .i64 v6), (32, AV.bool true)] [] 0 (by simp [h2, h2_, h3, h3_, h4, h4_]) (by simp [h2, h2_, h3, h3_, h4, h4_]) (by simp) ?_
      refine AW.condT (by decide) (by simp [h2, h2_, h3, h3_, h4, h4_]) ?_
      refine AW.seqR mixed [] [none, none] (by kernel_rfl) fun G170 R170 hG170 hR170 => ?_
      try simp [h2, h2_, h3, h3_, h4, h4_]
      repeat' apply And.intro
      any_goals (first | exact hG170 _ (by kernel_rfl) | refine hR170 _ _ _ ?_ | omega | (unfold maxLen; omega) | (simp [h2, h2_, h3, h3_, h4, h4_]; done) | (simp [h2, h2_, h3, h3_, h4, h4_]; omega))
      refine AW.wk [(6, AV.lst true true (List.map (AV.int .i64) ([] : List Int))), (7, AV.int .i64 44)] [] 0 (by simp [h2, h2_, h3, h3_, h4, h4_]) (by simp [h2, h2_, h3, h3_, h4, h4_]) (by simp) ?_
      refine AW.own' 6 1 true (by simp [h2, h2_, h3, h3_, h4, h4_]) (by decide) ?_
      simp only [Option.some.injEq, Prod.mk.injEq] at hF
      obtain ⟨e0, e1⟩ := hF
      subst e0 e1
      refine AW.ret (hQ _ _ _ ?_ (matchO_0 ?_)).1
      · simp [Try.f51, h2, h2_, h3, h3_, h4, h4_]
      · simp [h2, h2_, h3, h3_, h4, h4_]
    · replace hF := ite_f h4 hF
      have h4_ := h4
      try simp at h4_
      by_cases h5 : 9 < v2
      · replace hF := ite_t h5 hF
        have h5_ := h5
        try simp at h5_
        try simp [h2, h2_, h3, h3_, h4, h4_, h5, h5_]
        repeat' apply And.intro
        any_goals (first | exact hG169 _ (by kernel_rfl) | refine hR169 _ _ _ ?_ | omega | (unfold maxLen; omega) | (simp [h2, h2_, h3, h3_, h4, h4_, h5, h5_]; done) | (simp [h2, h2_, h3, h3_, h4, h4_, h5, h5_]; omega))
        refine AW.wk [(0, AV.lst false false (List.map (AV.int .i64) v0)), (1, AV.lst false false (List.map (AV.int .i64) v1)), (8, AV.int .i64 v6), (32, AV.bool true)] [] 0 (by simp [h2, h2_, h3, h3_, h4, h4_, h5, h5_]) (by simp [h2, h2_, h3, h3_, h4, h4_, h5, h5_]) (by simp) ?_
        refine AW.condT (by decide) (by simp [h2, h2_, h3, h3_, h4, h4_, h5, h5_]) ?_
        refine AW.seqR mixed [] [none, none] (by kernel_rfl) fun G171 R171 hG171 hR171 => ?_
        try simp [h2, h2_, h3, h3_, h4, h4_, h5, h5_]
        repeat' apply And.intro
        any_goals (first | exact hG171 _ (by kernel_rfl) | refine hR171 _ _ _ ?_ | omega | (unfold maxLen; omega) | (simp [h2, h2_, h3, h3_, h4, h4_, h5, h5_]; done) | (simp [h2, h2_, h3, h3_, h4, h4_, h5, h5_]; omega))
        refine AW.wk [(6, AV.lst true true (List.map (AV.int .i64) ([] : List Int))), (7, AV.int .i64 44)] [] 0 (by simp [h2, h2_, h3, h3_, h4, h4_, h5, h5_]) (by simp [h2, h2_, h3, h3_, h4, h4_, h5, h5_]) (by simp) ?_
        refine AW.own' 6 1 true (by simp [h2, h2_, h3, h3_, h4, h4_, h5, h5_]) (by decide) ?_
        simp only [Option.some.injEq, Prod.mk.injEq] at hF
        obtain ⟨e0, e1⟩ := hF
        subst e0 e1
        refine AW.ret (hQ _ _ _ ?_ (matchO_0 ?_)).1
        · simp [Try.f51, h2, h2_, h3, h3_, h4, h4_, h5, h5_]
        · simp [h2, h2_, h3, h3_, h4, h4_, h5, h5_]
      · replace hF := ite_f h5 hF
        have h5_ := h5
        try simp at h5_
        try simp [h2, h2_, h3, h3_, h4, h4_, h5, h5_]
        repeat' apply And.intro
        any_goals (first | exact hG169 _ (by kernel_rfl) | refine hR169 _ _ _ ?_ | omega | (unfold maxLen; omega) | (simp [h2, h2_, h3, h3_, h4, h4_, h5, h5_]; done) | (simp [h2, h2_, h3, h3_, h4, h4_, h5, h5_]; omega))
        refine AW.wk [(0, AV.lst false false (List.map (AV.int .i64) v0)), (1, AV.lst false false (List.map (AV.int .i64) v1)), (8, AV.int .i64 v6), (32, AV.bool (decide ((v1.length : Int) < v6)))] [] 0 (by simp [h2, h2_, h3, h3_, h4, h4_, h5, h5_]) (by simp [h2, h2_, h3, h3_, h4, h4_, h5, h5_]) (by simp) ?_
        by_cases h6 : (v1.length : Int) < v6
        · replace hF := ite_t h6 hF
          have h6_ := h6
          try simp at h6_
          refine AW.condT (by decide) (by first | (simp [h2, h2_, h3, h3_, h4, h4_, h5, h5_, h6, h6_]; done) | (simp [h2, h2_, h3, h3_, h4, h4_, h5, h5_, h6, h6_]; omega)) ?_
          refine AW.seqR mixed [] [none, none] (by kernel_rfl) fun G172 R172 hG172 hR172 => ?_
          try simp [h2, h2_, h3, h3_, h4, h4_, h5, h5_, h6, h6_]
          repeat' apply And.intro
          any_goals (first | exact hG172 _ (by kernel_rfl) | refine hR172 _ _ _ ?_ | omega | (unfold maxLen; omega) | (simp [h2, h2_, h3, h3_, h4, h4_, h5, h5_, h6, h6_]; done) | (simp [h2, h2_, h3, h3_, h4, h4_, h5, h5_, h6, h6_]; omega))
          refine AW.wk [(6, AV.lst true true (List.map (AV.int .i64) ([] : List Int))), (7, AV.int .i64 44)] [] 0 (by simp [h2, h2_, h3, h3_, h4, h4_, h5, h5_, h6, h6_]) (by simp [h2, h2_, h3, h3_, h4, h4_, h5, h5_, h6, h6_]) (by simp) ?_
          refine AW.own' 6 1 true (by simp [h2, h2_, h3, h3_, h4, h4_, h5, h5_, h6, h6_]) (by decide) ?_
          simp only [Option.some.injEq, Prod.mk.injEq] at hF
          obtain ⟨e0, e1⟩ := hF
          subst e0 e1
          refine AW.ret (hQ _ _ _ ?_ (matchO_0 ?_)).1
          · simp [Try.f51, h2, h2_, h3, h3_, h4, h4_, h5, h5_, h6, h6_]
          · simp [h2, h2_, h3, h3_, h4, h4_, h5, h5_, h6, h6_]
        · replace hF := ite_f h6 hF
          have h6_ := h6
          try simp at h6_
          refine AW.condF (by decide) (by first | (simp [h2, h2_, h3, h3_, h4, h4_, h5, h5_, h6, h6_]; done) | (simp [h2, h2_, h3, h3_, h4, h4_, h5, h5_, h6, h6_]; omega)) ?_
          refine AW.skip ?_
          refine hK168 _ _ _ ?_
          refine AW.seqR mixed [] [none, none, none] (by kernel_rfl) fun G173 R173 hG173 hR173 => ?_
          try simp [h2, h2_, h3, h3_, h4, h4_, h5, h5_, h6, h6_]
          repeat' apply And.intro
          try any_goals (first | omega | (unfold maxLen; omega) | (simp [h2, h2_, h3, h3_, h4, h4_, h5, h5_, h6, h6_]; done))
          obtain ⟨v7, h7, hF⟩ := bnd1_elim hF
          refine aCall_l (w_slices_Clone_int_int k _ _ h7) (by simp) [] [] [] rfl (.cons (.same (by simp [h2, h2_, h3, h3_, h4, h4_, h5, h5_, h6, h6_])) .nil) (by simp [h2, h2_, h3, h3_, h4, h4_, h5, h5_, h6, h6_]) (by decide) (by simp) (by simp) (.inl rfl) (by simp) (by simp) ?_
          try simp [h2, h2_, h3, h3_, h4, h4_, h5, h5_, h6, h6_]
          repeat' apply And.intro
          any_goals (first | exact hG173 _ (by kernel_rfl) | refine hR173 _ _ _ ?_ | omega | (unfold maxLen; omega) | (simp [h2, h2_, h3, h3_, h4, h4_, h5, h5_, h6, h6_]; done) | (simp [h2, h2_, h3, h3_, h4, h4_, h5, h5_, h6, h6_]; omega))
          refine AW.wk [(1, AV.lst false false (List.map (AV.int .i64) v1)), (8, AV.int .i64 v6), (9, AV.slc 0 0 1 v7.length false)] [(0, .grow (List.map (AV.int .i64) v7))] 1 (by simp [h2, h2_, h3, h3_, h4, h4_, h5, h5_, h6, h6_]) (by simp [h2, h2_, h3, h3_, h4, h4_, h5, h5_, h6, h6_]) (by simp) ?_
          refine AW.frz 0 (o := .grow (List.map (AV.int .i64) v7)) (by simp [h2, h2_, h3, h3_, h4, h4_, h5, h5_, h6, h6_]) rfl [(9, AV.lst false false (List.map (AV.int .i64) v7))] [] ⟨(.l (by simp) (by simp) (by simp) (by simp)), trivial⟩ trivial ?_
          refine AW.wk [(1, AV.lst false false (List.map (AV.int .i64) v1)), (8, AV.int .i64 v6), (9, AV.lst false false (List.map (AV.int .i64) v7))] [] 1 (by simp [h2, h2_, h3, h3_, h4, h4_, h5, h5_, h6, h6_]) (by simp [h2, h2_, h3, h3_, h4, h4_, h5, h5_, h6, h6_]) (by simp) ?_
          refine AW.seqR mixed [] [none] (by kernel_rfl) fun G174 R174 hG174 hR174 => ?_
          try simp [h2, h2_, h3, h3_, h4, h4_, h5, h5_, h6, h6_]
          repeat' apply And.intro
          any_goals (first | exact hG174 _ (by kernel_rfl) | refine hR174 _ _ _ ?_ | omega | (unfold maxLen; omega) | (simp [h2, h2_, h3, h3_, h4, h4_, h5, h5_, h6, h6_]; done) | (simp [h2, h2_, h3, h3_, h4, h4_, h5, h5_, h6, h6_]; omega))
          refine AW.wk [(1, AV.lst false false (List.map (AV.int .i64) v1)), (8, AV.int .i64 v6), (9, AV.lst false false (List.map (AV.int .i64) v7)), (10, AV.lst true true (List.map (AV.int .i64) ([] : List Int)))] [] 1 (by simp [h2, h2_, h3, h3_, h4, h4_, h5, h5_, h6, h6_]) (by simp [h2, h2_, h3, h3_, h4, h4_, h5, h5_, h6, h6_]) (by simp) ?_
          refine AW.seq fun K243 hK243 => ?_
          refine AW.seqR mixed [] [none, none, none, none, none] (by kernel_rfl) fun G244 R244 hG244 hR244 => ?_
          obtain ⟨⟨h8, h9⟩, hF⟩ := chk_elim hF
          have h8_ := h8
          try simp at h8_
          have h9_ := h9
          try simp at h9_
          try simp [h2, h2_, h3, h3_, h4, h4_, h5, h5_, h6, h6_, h8, h9, h8_, h9_]
          repeat' apply And.intro
          any_goals (first | exact hG244 _ (by kernel_rfl) | refine hR244 _ _ _ ?_ | omega | (unfold maxLen; omega) | (simp [h2, h2_, h3, h3_, h4, h4_, h5, h5_, h6, h6_, h8, h9, h8_, h9_]; done) | (simp [h2, h2_, h3, h3_, h4, h4_, h5, h5_, h6, h6_, h8, h9, h8_, h9_]; omega))
          refine AW.wk [(9, AV.lst false false (List.map (AV.int .i64) v7)), (10, AV.lst true true (List.map (AV.int .i64) ([] : List Int))), (37, AV.lst false false (List.map (AV.int .i64) (v1.take (v6).toNat))), (38, AV.int .i64 ((v1.take (v6).toNat).length : Int)), (39, AV.int .i64 0)] [] 1 (by simp [h2, h2_, h3, h3_, h4, h4_, h5, h5_, h6, h6_, h8, h9, h8_, h9_]) (by simp [h2, h2_, h3, h3_, h4, h4_, h5, h5_, h6, h6_, h8, h9, h8_, h9_]) (by simp) ?_
          refine AW.block ?_
          refine AW.own' 10 1 true (by simp [h2, h2_, h3, h3_, h4, h4_, h5, h5_, h6, h6_, h8, h9, h8_, h9_]) (by decide) ?_
          refine AW.rnm (m := 0) h0 [(0, 1)] [(9, AV.lst false false (List.map (AV.int .i64) v7)), (10, AV.slc 0 0 1 (([] : List Int).length) false), (37, AV.lst false false (List.map (AV.int .i64) (v1.take (v6).toNat))), (38, AV.int .i64 ((v1.take (v6).toNat).length : Int)), (39, AV.int .i64 0)] [(0, .grow (List.map (AV.int .i64) ([] : List Int)))] 1 (by decide) (by decide) (by decide) rfl (by simp [h2, h2_, h3, h3_, h4, h4_, h5, h5_, h6, h6_, h8, h9, h8_, h9_]) (by simp [h2, h2_, h3, h3_, h4, h4_, h5, h5_, h6, h6_, h8, h9, h8_, h9_]) ?_
          refine AW.loopF (α := ((List Int) × Int × (List Int))) (fun n (v8, v9, v10) => committee_Draw.L1 k v1 v6 n v8 v9 v10 = some (v3, v4)) (fun (v8, v9, v10) => [(9, AV.lst false false (List.map (AV.int .i64) v8)), (10, AV.slc 0 0 1 v10.length false), (37, AV.lst false false (List.map (AV.int .i64) (v1.take (v6).toNat))), (38, AV.int .i64 ((v1.take (v6).toNat).length : Int)), (39, AV.int .i64 v9)]) (fun (v8, v9, v10) => [(0, .grow (List.map (AV.int .i64) v10))]) 1 k ((v7, 0, ([] : List Int))) hF (by simp [h2, h2_, h3, h3_, h4, h4_, h5, h5_, h6, h6_, h8, h9, h8_, h9_]) (by simp [h2, h2_, h3, h3_, h4, h4_, h5, h5_, h6, h6_, h8, h9, h8_, h9_]) (by simp) ?_
          rintro (_|n1) ⟨v8, v9, v10⟩ hF K289 hK289
          · try dsimp only at hF
            rw [committee_Draw.L1] at hF; cases hF
          try dsimp only at hF
          rw [committee_Draw.L1] at hF
          refine AW.seqR mixed [] [none] (by kernel_rfl) fun G290 R290 hG290 hR290 => ?_
          try simp [h2, h2_, h3, h3_, h4, h4_, h5, h5_, h6, h6_, h8, h9, h8_, h9_]
          repeat' apply And.intro
          any_goals (first | exact hG290 _ (by kernel_rfl) | refine hR290 _ _ _ ?_ | omega | (unfold maxLen; omega) | (simp [h2, h2_, h3, h3_, h4, h4_, h5, h5_, h6, h6_, h8, h9, h8_, h9_]; done) | (simp [h2, h2_, h3, h3_, h4, h4_, h5, h5_, h6, h6_, h8, h9, h8_, h9_]; omega))
          refine AW.wk [(9, AV.lst false false (List.map (AV.int .i64) v8)), (10, AV.slc 0 0 1 v10.length false), (37, AV.lst false false (List.map (AV.int .i64) (v1.take (v6).toNat))), (38, AV.int .i64 ((v1.take (v6).toNat).length : Int)), (39, AV.int .i64 v9), (40, AV.bool (decide (v9 < ((v1.take (v6).toNat).length : Int))))] [(0, .grow (List.map (AV.int .i64) v10))] 1 (by simp [h2, h2_, h3, h3_, h4, h4_, h5, h5_, h6, h6_, h8, h9, h8_, h9_]) (by simp [h2, h2_, h3, h3_, h4, h4_, h5, h5_, h6, h6_, h8, h9, h8_, h9_]) (by simp) ?_
          refine AW.seq fun K291 hK291 => ?_
          by_cases h10 : v9 < ((v1.take (v6).toNat).length : Int)
          · replace hF := ite_t h10 hF
            have h10_ := h10
            try simp at h10_
            refine AW.condT (by decide) (by first | (simp [h2, h2_, h3, h3_, h4, h4_, h5, h5_, h6, h6_, h8, h9, h8_, h9_, h10, h10_]; done) | (simp [h2, h2_, h3, h3_, h4, h4_, h5, h5_, h6, h6_, h8, h9, h8_, h9_, h10, h10_]; omega)) ?_
            refine AW.skip ?_
            refine hK291 _ _ _ ?_
            refine AW.seq fun K301 hK301 => ?_
            refine AW.block ?_
            refine AW.seqR mixed [] [none, none, none] (by kernel_rfl) fun G302 R302 hG302 hR302 => ?_
            obtain ⟨v11, h11, h12, h13, hF⟩ := idx_elim hF
            have h13_ := get_of h13
            try simp at h13_
            have h12_ := h12
            try simp at h12_
            have h12t := h12
            rw [List.length_take] at h12t
            have h12u := (Nat.lt_min.1 h12t).1
            have h12v := (Nat.lt_min.1 h12t).2
            try simp [h2, h2_, h3, h3_, h4, h4_, h5, h5_, h6, h6_, h8, h9, h8_, h9_, h10, h10_, h11, h12, h13, h13_, h12_, h12u, h12v]
            repeat' apply And.intro
            any_goals (first | exact hG302 _ (by kernel_rfl) | refine hR302 _ _ _ ?_ | omega | (unfold maxLen; omega) | (simp [h2, h2_, h3, h3_, h4, h4_, h5, h5_, h6, h6_, h8, h9, h8_, h9_, h10, h10_, h11, h12, h13, h13_, h12_, h12u, h12v]; done) | (simp [h2, h2_, h3, h3_, h4, h4_, h5, h5_, h6, h6_, h8, h9, h8_, h9_, h10, h10_, h11, h12, h13, h13_, h12_, h12u, h12v]; omega))
            refine AW.wk [(9, AV.lst false false (List.map (AV.int .i64) v8)), (10, AV.slc 0 0 1 v10.length false), (12, AV.int .i64 v11), (37, AV.lst false false (List.map (AV.int .i64) (v1.take (v6).toNat))), (38, AV.int .i64 ((v1.take (v6).toNat).length : Int)), (39, AV.int .i64 v9)] [(0, .grow (List.map (AV.int .i64) v10))] 1 (by simp [h2, h2_, h3, h3_, h4, h4_, h5, h5_, h6, h6_, h8, h9, h8_, h9_, h10, h10_, h11, h12, h13, h13_, h12_, h12u, h12v]) (by simp [h2, h2_, h3, h3_, h4, h4_, h5, h5_, h6, h6_, h8, h9, h8_, h9_, h10, h10_, h11, h12, h13, h13_, h12_, h12u, h12v]) (by simp) ?_
            refine AW.seq fun K305 hK305 => ?_
            refine AW.seqR mixed [] [none, none] (by kernel_rfl) fun G306 R306 hG306 hR306 => ?_
            try simp [h2, h2_, h3, h3_, h4, h4_, h5, h5_, h6, h6_, h8, h9, h8_, h9_, h10, h10_, h11, h12, h13, h13_, h12_, h12u, h12v]
            repeat' apply And.intro
            any_goals (first | exact hG306 _ (by kernel_rfl) | refine hR306 _ _ _ ?_ | omega | (unfold maxLen; omega) | (simp [h2, h2_, h3, h3_, h4, h4_, h5, h5_, h6, h6_, h8, h9, h8_, h9_, h10, h10_, h11, h12, h13, h13_, h12_, h12u, h12v]; done) | (simp [h2, h2_, h3, h3_, h4, h4_, h5, h5_, h6, h6_, h8, h9, h8_, h9_, h10, h10_, h11, h12, h13, h13_, h12_, h12u, h12v]; omega))
            refine AW.wk [(9, AV.lst false false (List.map (AV.int .i64) v8)), (10, AV.slc 0 0 1 v10.length false), (12, AV.int .i64 v11), (37, AV.lst false false (List.map (AV.int .i64) (v1.take (v6).toNat))), (38, AV.int .i64 ((v1.take (v6).toNat).length : Int)), (39, AV.int .i64 v9), (44, AV.bool (decide (v11 < 0)))] [(0, .grow (List.map (AV.int .i64) v10))] 1 (by simp [h2, h2_, h3, h3_, h4, h4_, h5, h5_, h6, h6_, h8, h9, h8_, h9_, h10, h10_, h11, h12, h13, h13_, h12_, h12u, h12v]) (by simp [h2, h2_, h3, h3_, h4, h4_, h5, h5_, h6, h6_, h8, h9, h8_, h9_, h10, h10_, h11, h12, h13, h13_, h12_, h12u, h12v]) (by simp) ?_
            by_cases h14 : v11 < 0
            · replace hF := ite_t h14 hF
              have h14_ := h14
              try simp at h14_
              refine AW.condT (by decide) (by first | (simp [h2, h2_, h3, h3_, h4, h4_, h5, h5_, h6, h6_, h8, h9, h8_, h9_, h10, h10_, h11, h12, h13, h13_, h12_, h12u, h12v, h14, h14_]; done) | (simp [h2, h2_, h3, h3_, h4, h4_, h5, h5_, h6, h6_, h8, h9, h8_, h9_, h10, h10_, h11, h12, h13, h13_, h12_, h12u, h12v, h14, h14_]; omega)) ?_
              refine AW.seqR mixed [] [none, none] (by kernel_rfl) fun G307 R307 hG307 hR307 => ?_
              try simp [h2, h2_, h3, h3_, h4, h4_, h5, h5_, h6, h6_, h8, h9, h8_, h9_, h10, h10_, h11, h12, h13, h13_, h12_, h12u, h12v, h14, h14_]
              repeat' apply And.intro
              any_goals (first | exact hG307 _ (by kernel_rfl) | refine hR307 _ _ _ ?_ | omega | (unfold maxLen; omega) | (simp [h2, h2_, h3, h3_, h4, h4_, h5, h5_, h6, h6_, h8, h9, h8_, h9_, h10, h10_, h11, h12, h13, h13_, h12_, h12u, h12v, h14, h14_]; done) | (simp [h2, h2_, h3, h3_, h4, h4_, h5, h5_, h6, h6_, h8, h9, h8_, h9_, h10, h10_, h11, h12, h13, h13_, h12_, h12u, h12v, h14, h14_]; omega))
              refine AW.wk [(6, AV.lst true true (List.map (AV.int .i64) ([] : List Int))), (7, AV.int .i64 44)] [] 1 (by simp [h2, h2_, h3, h3_, h4, h4_, h5, h5_, h6, h6_, h8, h9, h8_, h9_, h10, h10_, h11, h12, h13, h13_, h12_, h12u, h12v, h14, h14_]) (by simp [h2, h2_, h3, h3_, h4, h4_, h5, h5_, h6, h6_, h8, h9, h8_, h9_, h10, h10_, h11, h12, h13, h13_, h12_, h12u, h12v, h14, h14_]) (by simp) ?_
              refine AW.own' 6 1 true (by simp [h2, h2_, h3, h3_, h4, h4_, h5, h5_, h6, h6_, h8, h9, h8_, h9_, h10, h10_, h11, h12, h13, h13_, h12_, h12u, h12v, h14, h14_]) (by decide) ?_
              refine AW.rnm (m := 0) h0 [(0, 1)] [(6, AV.slc 0 0 1 (([] : List Int).length) false), (7, AV.int .i64 44)] [(0, .grow (List.map (AV.int .i64) ([] : List Int)))] 1 (by decide) (by decide) (by decide) rfl (by simp [h2, h2_, h3, h3_, h4, h4_, h5, h5_, h6, h6_, h8, h9, h8_, h9_, h10, h10_, h11, h12, h13, h13_, h12_, h12u, h12v, h14, h14_]) (by simp [h2, h2_, h3, h3_, h4, h4_, h5, h5_, h6, h6_, h8, h9, h8_, h9_, h10, h10_, h11, h12, h13, h13_, h12_, h12u, h12v, h14, h14_]) ?_
              simp only [Option.some.injEq, Prod.mk.injEq] at hF
              obtain ⟨e0, e1⟩ := hF
              subst e0 e1
              refine AW.ret (hQ _ _ _ ?_ (matchO_0 ?_)).1
              · simp [Try.f51, h2, h2_, h3, h3_, h4, h4_, h5, h5_, h6, h6_, h8, h9, h8_, h9_, h10, h10_, h11, h12, h13, h13_, h12_, h12u, h12v, h14, h14_]
              · simp [h2, h2_, h3, h3_, h4, h4_, h5, h5_, h6, h6_, h8, h9, h8_, h9_, h10, h10_, h11, h12, h13, h13_, h12_, h12u, h12v, h14, h14_]
            · replace hF := ite_f h14 hF
              have h14_ := h14
              try simp at h14_
              refine AW.condF (by decide) (by first | (simp [h2, h2_, h3, h3_, h4, h4_, h5, h5_, h6, h6_, h8, h9, h8_, h9_, h10, h10_, h11, h12, h13, h13_, h12_, h12u, h12v, h14, h14_]; done) | (simp [h2, h2_, h3, h3_, h4, h4_, h5, h5_, h6, h6_, h8, h9, h8_, h9_, h10, h10_, h11, h12, h13, h13_, h12_, h12u, h12v, h14, h14_]; omega)) ?_
              refine AW.skip ?_
              refine hK305 _ _ _ ?_
              refine AW.seqR mixed [] [none, none, none, none, none] (by kernel_rfl) fun G308 R308 hG308 hR308 => ?_
              obtain ⟨h15, hF⟩ := chk_elim hF
              have h15_ := h15
              try simp at h15_
              try simp [h2, h2_, h3, h3_, h4, h4_, h5, h5_, h6, h6_, h8, h9, h8_, h9_, h10, h10_, h11, h12, h13, h13_, h12_, h12u, h12v, h14, h14_, h15, h15_]
              repeat' apply And.intro
              any_goals (first | exact hG308 _ (by kernel_rfl) | refine hR308 _ _ _ ?_ | omega | (unfold maxLen; omega) | (simp [h2, h2_, h3, h3_, h4, h4_, h5, h5_, h6, h6_, h8, h9, h8_, h9_, h10, h10_, h11, h12, h13, h13_, h12_, h12u, h12v, h14, h14_, h15, h15_]; done) | (simp [h2, h2_, h3, h3_, h4, h4_, h5, h5_, h6, h6_, h8, h9, h8_, h9_, h10, h10_, h11, h12, h13, h13_, h12_, h12u, h12v, h14, h14_, h15, h15_]; omega))
              refine AW.wk [(9, AV.lst false false (List.map (AV.int .i64) v8)), (10, AV.slc 0 0 1 v10.length false), (13, AV.int .i64 (Int.tmod v11 (v8.length : Int))), (37, AV.lst false false (List.map (AV.int .i64) (v1.take (v6).toNat))), (38, AV.int .i64 ((v1.take (v6).toNat).length : Int)), (39, AV.int .i64 v9)] [(0, .grow (List.map (AV.int .i64) v10))] 1 (by simp [h2, h2_, h3, h3_, h4, h4_, h5, h5_, h6, h6_, h8, h9, h8_, h9_, h10, h10_, h11, h12, h13, h13_, h12_, h12u, h12v, h14, h14_, h15, h15_]) (by simp [h2, h2_, h3, h3_, h4, h4_, h5, h5_, h6, h6_, h8, h9, h8_, h9_, h10, h10_, h11, h12, h13, h13_, h12_, h12u, h12v, h14, h14_, h15, h15_]) (by simp) ?_
              refine AW.seqR mixed [] [none, none, none, none, none, none, none, none] (by kernel_rfl) fun G309 R309 hG309 hR309 => ?_
              obtain ⟨v12, h16, h17, h18, hF⟩ := idx_elim hF
              have h18_ := get_of h18
              try simp at h18_
              have h17_ := h17
              try simp at h17_
              obtain ⟨h19, hF⟩ := chk_elim hF
              have h19_ := h19
              try simp at h19_
              try simp [h2, h2_, h3, h3_, h4, h4_, h5, h5_, h6, h6_, h8, h9, h8_, h9_, h10, h10_, h11, h12, h13, h13_, h12_, h12u, h12v, h14, h14_, h15, h15_, h16, h17, h18, h18_, h17_, h19]
              repeat' apply And.intro
              any_goals (first | exact hG309 _ (by kernel_rfl) | refine hR309 _ _ _ ?_ | omega | (unfold maxLen; omega) | (simp [h2, h2_, h3, h3_, h4, h4_, h5, h5_, h6, h6_, h8, h9, h8_, h9_, h10, h10_, h11, h12, h13, h13_, h12_, h12u, h12v, h14, h14_, h15, h15_, h16, h17, h18, h18_, h17_, h19]; done) | (simp [h2, h2_, h3, h3_, h4, h4_, h5, h5_, h6, h6_, h8, h9, h8_, h9_, h10, h10_, h11, h12, h13, h13_, h12_, h12u, h12v, h14, h14_, h15, h15_, h16, h17, h18, h18_, h17_, h19]; omega))
              refine AW.wk [(9, AV.lst false false (List.map (AV.int .i64) v8)), (10, AV.slc 1 0 1 ((v10 ++ ([v12] : List Int)).length) false), (13, AV.int .i64 (Int.tmod v11 (v8.length : Int))), (37, AV.lst false false (List.map (AV.int .i64) (v1.take (v6).toNat))), (38, AV.int .i64 ((v1.take (v6).toNat).length : Int)), (39, AV.int .i64 v9)] [(1, .grow (List.map (AV.int .i64) (v10 ++ ([v12] : List Int))))] 2 (by simp [h2, h2_, h3, h3_, h4, h4_, h5, h5_, h6, h6_, h8, h9, h8_, h9_, h10, h10_, h11, h12, h13, h13_, h12_, h12u, h12v, h14, h14_, h15, h15_, h16, h17, h18, h18_, h17_, h19]) (by simp [h2, h2_, h3, h3_, h4, h4_, h5, h5_, h6, h6_, h8, h9, h8_, h9_, h10, h10_, h11, h12, h13, h13_, h12_, h12u, h12v, h14, h14_, h15, h15_, h16, h17, h18, h18_, h17_, h19]) (by simp) ?_
              refine AW.region mixed [] [none, none, none, none, none, none, none, none, none, none] (by kernel_rfl) fun G310 R310 hG310 hR310 => ?_
              obtain ⟨⟨h20, h21⟩, hF⟩ := chk_elim hF
              have h20_ := h20
              try simp at h20_
              have h21_ := h21
              try simp at h21_
              obtain ⟨⟨h22, h23⟩, hF⟩ := chk_elim hF
              have h22_ := h22
              try simp at h22_
              have h23_ := h23
              try simp at h23_
              obtain ⟨h24, hF⟩ := chk_elim hF
              have h24_ := h24
              try simp at h24_
              try simp [h2, h2_, h3, h3_, h4, h4_, h5, h5_, h6, h6_, h8, h9, h8_, h9_, h10, h10_, h11, h12, h13, h13_, h12_, h12u, h12v, h14, h14_, h15, h15_, h16, h17, h18, h18_, h17_, h19, h20, h21, h20_, h21_, h22, h23, h22_, h23_, h24]
              repeat' apply And.intro
              any_goals (first | exact hG310 _ (by kernel_rfl) | refine hR310 _ _ _ ?_ | omega | (unfold maxLen; omega) | (simp [h2, h2_, h3, h3_, h4, h4_, h5, h5_, h6, h6_, h8, h9, h8_, h9_, h10, h10_, h11, h12, h13, h13_, h12_, h12u, h12v, h14, h14_, h15, h15_, h16, h17, h18, h18_, h17_, h19, h20, h21, h20_, h21_, h22, h23, h22_, h23_, h24]; done) | (simp [h2, h2_, h3, h3_, h4, h4_, h5, h5_, h6, h6_, h8, h9, h8_, h9_, h10, h10_, h11, h12, h13, h13_, h12_, h12u, h12v, h14, h14_, h15, h15_, h16, h17, h18, h18_, h17_, h19, h20, h21, h20_, h21_, h22, h23, h22_, h23_, h24]; omega))
              refine hK301 _ _ _ ?_
              refine AW.wk [(9, AV.lst false false (List.map (AV.int .i64) ((v8.take (Int.tmod v11 (v8.length : Int)).toNat) ++ (v8.drop (IntKind.wrap .i64 (Int.tmod v11 (v8.length : Int) + 1)).toNat)))), (10, AV.slc 1 0 1 ((v10 ++ ([v12] : List Int)).length) false), (37, AV.lst false false (List.map (AV.int .i64) (v1.take (v6).toNat))), (38, AV.int .i64 ((v1.take (v6).toNat).length : Int)), (39, AV.int .i64 v9)] [(1, .grow (List.map (AV.int .i64) (v10 ++ ([v12] : List Int))))] 2 (by simp [h2, h2_, h3, h3_, h4, h4_, h5, h5_, h6, h6_, h8, h9, h8_, h9_, h10, h10_, h11, h12, h13, h13_, h12_, h12u, h12v, h14, h14_, h15, h15_, h16, h17, h18, h18_, h17_, h19, h20, h21, h20_, h21_, h22, h23, h22_, h23_, h24]) (by simp [h2, h2_, h3, h3_, h4, h4_, h5, h5_, h6, h6_, h8, h9, h8_, h9_, h10, h10_, h11, h12, h13, h13_, h12_, h12u, h12v, h14, h14_, h15, h15_, h16, h17, h18, h18_, h17_, h19, h20, h21, h20_, h21_, h22, h23, h22_, h23_, h24]) (by simp) ?_
              refine AW.region mixed [] [none, none] (by kernel_rfl) fun G311 R311 hG311 hR311 => ?_
              try simp [h2, h2_, h3, h3_, h4, h4_, h5, h5_, h6, h6_, h8, h9, h8_, h9_, h10, h10_, h11, h12, h13, h13_, h12_, h12u, h12v, h14, h14_, h15, h15_, h16, h17, h18, h18_, h17_, h19, h20, h21, h20_, h21_, h22, h23, h22_, h23_, h24]
              repeat' apply And.intro
              any_goals (first | exact hG311 _ (by kernel_rfl) | refine hR311 _ _ _ ?_ | omega | (unfold maxLen; omega) | (simp [h2, h2_, h3, h3_, h4, h4_, h5, h5_, h6, h6_, h8, h9, h8_, h9_, h10, h10_, h11, h12, h13, h13_, h12_, h12u, h12v, h14, h14_, h15, h15_, h16, h17, h18, h18_, h17_, h19, h20, h21, h20_, h21_, h22, h23, h22_, h23_, h24]; done) | (simp [h2, h2_, h3, h3_, h4, h4_, h5, h5_, h6, h6_, h8, h9, h8_, h9_, h10, h10_, h11, h12, h13, h13_, h12_, h12u, h12v, h14, h14_, h15, h15_, h16, h17, h18, h18_, h17_, h19, h20, h21, h20_, h21_, h22, h23, h22_, h23_, h24]; omega))
              refine hK289 _ _ _ ?_
              refine Can.weak [(9, AV.lst false false (List.map (AV.int .i64) ((v8.take (Int.tmod v11 (v8.length : Int)).toNat) ++ (v8.drop (IntKind.wrap .i64 (Int.tmod v11 (v8.length : Int) + 1)).toNat)))), (10, AV.slc 1 0 1 ((v10 ++ ([v12] : List Int)).length) false), (37, AV.lst false false (List.map (AV.int .i64) (v1.take (v6).toNat))), (38, AV.int .i64 ((v1.take (v6).toNat).length : Int)), (39, AV.int .i64 (IntKind.wrap .i64 (v9 + 1)))] [(1, .grow (List.map (AV.int .i64) (v10 ++ ([v12] : List Int))))] 2 (by simp [h2, h2_, h3, h3_, h4, h4_, h5, h5_, h6, h6_, h8, h9, h8_, h9_, h10, h10_, h11, h12, h13, h13_, h12_, h12u, h12v, h14, h14_, h15, h15_, h16, h17, h18, h18_, h17_, h19, h20, h21, h20_, h21_, h22, h23, h22_, h23_, h24]) (by simp [h2, h2_, h3, h3_, h4, h4_, h5, h5_, h6, h6_, h8, h9, h8_, h9_, h10, h10_, h11, h12, h13, h13_, h12_, h12u, h12v, h14, h14_, h15, h15_, h16, h17, h18, h18_, h17_, h19, h20, h21, h20_, h21_, h22, h23, h22_, h23_, h24]) (by simp) ?_
              refine Can.ren (m := 0) h0 [(0, 1)] [(9, AV.lst false false (List.map (AV.int .i64) ((v8.take (Int.tmod v11 (v8.length : Int)).toNat) ++ (v8.drop (IntKind.wrap .i64 (Int.tmod v11 (v8.length : Int) + 1)).toNat)))), (10, AV.slc 0 0 1 ((v10 ++ ([v12] : List Int)).length) false), (37, AV.lst false false (List.map (AV.int .i64) (v1.take (v6).toNat))), (38, AV.int .i64 ((v1.take (v6).toNat).length : Int)), (39, AV.int .i64 (IntKind.wrap .i64 (v9 + 1)))] [(0, .grow (List.map (AV.int .i64) (v10 ++ ([v12] : List Int))))] 1 (by decide) (by decide) (by decide) rfl (by simp [h2, h2_, h3, h3_, h4, h4_, h5, h5_, h6, h6_, h8, h9, h8_, h9_, h10, h10_, h11, h12, h13, h13_, h12_, h12u, h12v, h14, h14_, h15, h15_, h16, h17, h18, h18_, h17_, h19, h20, h21, h20_, h21_, h22, h23, h22_, h23_, h24]) (by simp [h2, h2_, h3, h3_, h4, h4_, h5, h5_, h6, h6_, h8, h9, h8_, h9_, h10, h10_, h11, h12, h13, h13_, h12_, h12u, h12v, h14, h14_, h15, h15_, h16, h17, h18, h18_, h17_, h19, h20, h21, h20_, h21_, h22, h23, h22_, h23_, h24]) ?_
              exact Can.next (k' := n1) (((v8.take (Int.tmod v11 (v8.length : Int)).toNat) ++ (v8.drop (IntKind.wrap .i64 (Int.tmod v11 (v8.length : Int) + 1)).toNat), IntKind.wrap .i64 (v9 + 1), v10 ++ ([v12] : List Int))) (by omega) hF (by simp [h2, h2_, h3, h3_, h4, h4_, h5, h5_, h6, h6_, h8, h9, h8_, h9_, h10, h10_, h11, h12, h13, h13_, h12_, h12u, h12v, h14, h14_, h15, h15_, h16, h17, h18, h18_, h17_, h19, h20, h21, h20_, h21_, h22, h23, h22_, h23_, h24]) (by simp [h2, h2_, h3, h3_, h4, h4_, h5, h5_, h6, h6_, h8, h9, h8_, h9_, h10, h10_, h11, h12, h13, h13_, h12_, h12u, h12v, h14, h14_, h15, h15_, h16, h17, h18, h18_, h17_, h19, h20, h21, h20_, h21_, h22, h23, h22_, h23_, h24]) (by simp)
          · replace hF := ite_f h10 hF
            have h10_ := h10
            try simp at h10_
            refine AW.condF (by decide) (by first | (simp [h2, h2_, h3, h3_, h4, h4_, h5, h5_, h6, h6_, h8, h9, h8_, h9_, h10, h10_]; done) | (simp [h2, h2_, h3, h3_, h4, h4_, h5, h5_, h6, h6_, h8, h9, h8_, h9_, h10, h10_]; omega)) ?_
            refine AW.exit ?_
            try simp
            refine hK243 _ _ _ ?_
            refine AW.seqR mixed [] [none, none, none] (by kernel_rfl) fun G312 R312 hG312 hR312 => ?_
            try simp [h2, h2_, h3, h3_, h4, h4_, h5, h5_, h6, h6_, h8, h9, h8_, h9_, h10, h10_]
            repeat' apply And.intro
            any_goals (first | exact hG312 _ (by kernel_rfl) | refine hR312 _ _ _ ?_ | omega | (unfold maxLen; omega) | (simp [h2, h2_, h3, h3_, h4, h4_, h5, h5_, h6, h6_, h8, h9, h8_, h9_, h10, h10_]; done) | (simp [h2, h2_, h3, h3_, h4, h4_, h5, h5_, h6, h6_, h8, h9, h8_, h9_, h10, h10_]; omega))
            refine AW.wk [(6, AV.slc 0 0 1 v10.length false), (7, AV.int .i64 0)] [(0, .grow (List.map (AV.int .i64) v10))] 1 (by simp [h2, h2_, h3, h3_, h4, h4_, h5, h5_, h6, h6_, h8, h9, h8_, h9_, h10, h10_]) (by simp [h2, h2_, h3, h3_, h4, h4_, h5, h5_, h6, h6_, h8, h9, h8_, h9_, h10, h10_]) (by simp) ?_
            simp only [Option.some.injEq, Prod.mk.injEq] at hF
            obtain ⟨e0, e1⟩ := hF
            subst e0 e1
            refine AW.ret (hQ _ _ _ ?_ (matchO_0 ?_)).1
            · simp [Try.f51, h2, h2_, h3, h3_, h4, h4_, h5, h5_, h6, h6_, h8, h9, h8_, h9_, h10, h10_]
            · simp [h2, h2_, h3, h3_, h4, h4_, h5, h5_, h6, h6_, h8, h9, h8_, h9_, h10, h10_]
end Go.TF
