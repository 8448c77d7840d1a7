/- Walks: the Go text computes the Lean functions (printed by a program of our own). -/
import Derived.Test.YtocmgnljgemjkaaPu
import Derived.Test.YtocmgnljgemjkaaAbsT
import Derived.Test.YtocmgnljgemjkaaWa0
import Derived.Test.YtocmgnljgemjkaaWa2
import Derived.Test.YtocmgnljgemjkaaWa14
import Derived.Test.YtocmgnljgemjkaaWa15
set_option linter.unusedVariables false
set_option linter.unusedSimpArgs false
set_option maxRecDepth 100000
namespace Go.TF
open Go Go.Abs Go.Proofs Go.Proofs.YtocmgnljgemjkaaT
set_option maxHeartbeats 4000000 in
theorem w_committee_Quorum (k : Nat) (v0 : Int) (v1 : Int) (hF : committee_Quorum k v0 = some v1) :
    FCall Try.prog 60 [AV.int .i64 v0] [] (AV.int .i64 v1) [] := by
  unfold committee_Quorum at hF
  refine FCall.enter Try.func60 rfl (by simp) (by decide) (by simp) (by simp) (by simp) (by simp) (by simp) ?_
  intro c0 w0 Q h0 hQ
  refine AW.wk [(0, AV.int .i64 v0)] [] 0 (by simp) (by simp) (by simp) ?_
  refine AW.seqR mixed [] [none] (by kernel_rfl) fun G10 R10 hG10 hR10 => ?_
  try simp
  repeat' apply And.intro
  any_goals (first | exact hG10 _ (by kernel_rfl) | refine hR10 _ _ _ ?_ | omega | (unfold maxLen; omega) | (simp; done) | (simp; omega))
  refine AW.wk [(0, AV.int .i64 v0)] [] 0 (by simp) (by simp) (by simp) ?_
  refine AW.seq fun K14 hK14 => ?_
  refine AW.seqR mixed [] [none, none, none, some (5, false), some (5, false), none] (by kernel_rfl) fun G15 R15 hG15 hR15 => ?_
  by_cases h1 : v0 < 1
  · replace hF := ite_t h1 hF
    have h1_ := h1
    try simp at h1_
    try simp [h1, h1_]
    repeat' apply And.intro
    any_goals (first | exact hG15 _ (by kernel_rfl) | refine hR15 _ _ _ ?_ | omega | (unfold maxLen; omega) | (simp [h1, h1_]; done) | (simp [h1, h1_]; omega))
    refine AW.wk [(0, AV.int .i64 v0), (8, AV.bool true)] [] 0 (by simp [h1, h1_]) (by simp [h1, h1_]) (by simp) ?_
    refine AW.condT (by decide) (by simp [h1, h1_]) ?_
    refine AW.seqR mixed [] [none] (by kernel_rfl) fun G16 R16 hG16 hR16 => ?_
    try simp [h1, h1_]
    repeat' apply And.intro
    any_goals (first | exact hG16 _ (by kernel_rfl) | refine hR16 _ _ _ ?_ | omega | (unfold maxLen; omega) | (simp [h1, h1_]; done) | (simp [h1, h1_]; omega))
    refine AW.wk [(2, AV.int .i64 0)] [] 0 (by simp [h1, h1_]) (by simp [h1, h1_]) (by simp) ?_
    simp only [Option.some.injEq] at hF
    subst hF
    refine AW.ret (hQ _ _ _ ?_ (matchO_0 ?_)).1
    · simp [Try.f60, h1, h1_]
    · simp [h1, h1_]
  · replace hF := ite_f h1 hF
    have h1_ := h1
    try simp at h1_
    try simp [h1, h1_]
    repeat' apply And.intro
    any_goals (first | exact hG15 _ (by kernel_rfl) | refine hR15 _ _ _ ?_ | omega | (unfold maxLen; omega) | (simp [h1, h1_]; done) | (simp [h1, h1_]; omega))
    refine AW.wk [(0, AV.int .i64 v0), (8, AV.bool (decide (9 < v0)))] [] 0 (by simp [h1, h1_]) (by simp [h1, h1_]) (by simp) ?_
    by_cases h2 : 9 < v0
    · replace hF := ite_t h2 hF
      have h2_ := h2
      try simp at h2_
      refine AW.condT (by decide) (by first | (simp [h1, h1_, h2, h2_]; done) | (simp [h1, h1_, h2, h2_]; omega)) ?_
      refine AW.seqR mixed [] [none] (by kernel_rfl) fun G17 R17 hG17 hR17 => ?_
      try simp [h1, h1_, h2, h2_]
      repeat' apply And.intro
      any_goals (first | exact hG17 _ (by kernel_rfl) | refine hR17 _ _ _ ?_ | omega | (unfold maxLen; omega) | (simp [h1, h1_, h2, h2_]; done) | (simp [h1, h1_, h2, h2_]; omega))
      refine AW.wk [(2, AV.int .i64 0)] [] 0 (by simp [h1, h1_, h2, h2_]) (by simp [h1, h1_, h2, h2_]) (by simp) ?_
      simp only [Option.some.injEq] at hF
      subst hF
      refine AW.ret (hQ _ _ _ ?_ (matchO_0 ?_)).1
      · simp [Try.f60, h1, h1_, h2, h2_]
      · simp [h1, h1_, h2, h2_]
    · replace hF := ite_f h2 hF
      have h2_ := h2
      try simp at h2_
      refine AW.condF (by decide) (by first | (simp [h1, h1_, h2, h2_]; done) | (simp [h1, h1_, h2, h2_]; omega)) ?_
      refine AW.skip ?_
      refine hK14 _ _ _ ?_
      refine AW.seqR mixed [] [none, none, none, none, none] (by kernel_rfl) fun G18 R18 hG18 hR18 => ?_
      try simp [h1, h1_, h2, h2_]
      repeat' apply And.intro
      any_goals (first | exact hG18 _ (by kernel_rfl) | refine hR18 _ _ _ ?_ | omega | (unfold maxLen; omega) | (simp [h1, h1_, h2, h2_]; done) | (simp [h1, h1_, h2, h2_]; omega))
      refine AW.wk [(2, AV.int .i64 (IntKind.wrap .i64 (IntKind.wrap .i64 (Int.tdiv (IntKind.wrap .i64 (3 * v0)) 4) + 1)))] [] 0 (by simp [h1, h1_, h2, h2_]) (by simp [h1, h1_, h2, h2_]) (by simp) ?_
      simp only [Option.some.injEq] at hF
      subst hF
      refine AW.ret (hQ _ _ _ ?_ (matchO_0 ?_)).1
      · simp [Try.f60, h1, h1_, h2, h2_]
      · simp [h1, h1_, h2, h2_]
set_option maxHeartbeats 4000000 in
theorem w_law26_awake (k : Nat) (v0 : Bool) (hF : law26_awake k = some v0) :
    FCall Try.prog 52 [] [] (AV.bool v0) [] := by
  unfold law26_awake at hF
  refine FCall.enter Try.func52 rfl (by simp) (by decide) (by simp) (by simp) (by simp) (by simp) (by simp) ?_
  intro c0 w0 Q h0 hQ
  refine AW.wk [] [] 0 (by simp) (by simp) (by simp) ?_
  refine AW.seqR mixed [] [none] (by kernel_rfl) fun G4 R4 hG4 hR4 => ?_
  try simp
  repeat' apply And.intro
  any_goals (first | exact hG4 _ (by kernel_rfl) | refine hR4 _ _ _ ?_ | omega | (unfold maxLen; omega) | (simp; done) | (simp; omega))
  refine AW.wk [] [] 0 (by simp) (by simp) (by simp) ?_
  refine AW.seqR mixed [] [none, none, none, none, none, none, none, none] (by kernel_rfl) fun G5 R5 hG5 hR5 => ?_
  try simp
  repeat' apply And.intro
  try any_goals (first | omega | (unfold maxLen; omega) | (simp; done))
  obtain ⟨v1, v2, h1, hF⟩ := bnd2_elim hF
  refine aCall_l (w_committee_Draw k _ _ _ _ _ h1) (by simp) [] [] [] rfl (.cons (Coe.fl (by simp)) (.cons (Coe.fl (by simp)) (.cons (.same (by simp)) .nil))) (by simp) (by decide) (by simp) (by simp) (.inl rfl) (by simp) (by simp) ?_
  try simp
  repeat' apply And.intro
  any_goals (first | exact hG5 _ (by kernel_rfl) | refine hR5 _ _ _ ?_ | omega | (unfold maxLen; omega) | (simp; done) | (simp; omega))
  refine AW.wk [(1, AV.slc 0 0 1 v1.length false), (2, AV.int .i64 v2)] [(0, .grow (List.map (AV.int .i64) v1))] 1 (by simp) (by simp) (by simp) ?_
  refine AW.frz 0 (o := .grow (List.map (AV.int .i64) v1)) (by simp) rfl [(1, AV.lst false false (List.map (AV.int .i64) v1))] [] ⟨(.l (by simp) (by simp) (by simp) (by simp)), trivial⟩ trivial ?_
  refine AW.wk [(1, AV.lst false false (List.map (AV.int .i64) v1)), (2, AV.int .i64 v2)] [] 1 (by simp) (by simp) (by simp) ?_
  refine AW.seqR mixed [] [none, none, none, some (11, true), some (11, true), some (11, true), none, none, some (16, true), some (16, true), none, none, some (20, true), some (20, true), none, none, some (24, true), some (24, true), none, none] (by kernel_rfl) fun G6 R6 hG6 hR6 => ?_
  by_cases h2 : v2 = 0
  · replace hF := ite_t h2 hF
    have h2q : v2 = 0 := h2
    have h2_ := eqb_t h2q
    have h2__ := neb_f h2q
    try simp [h2_, h2__, h2q]
    repeat' apply And.intro
    try any_goals (first | omega | (unfold maxLen; omega) | (simp [h2_, h2__, h2q]; done))
    obtain ⟨v3, h3, hF⟩ := bnd1_elim hF
    refine aCall_l (w_ref23_SameInts k _ _ _ h3) (by simp) [] [] [] rfl (.cons (.same (by simp [h2_, h2__, h2q])) (.cons (Coe.fl (by simp [h2_, h2__, h2q])) .nil)) (by simp [h2_, h2__, h2q]) (by decide) (by simp) (by simp) (.inl rfl) (by simp) (by simp) ?_
    by_cases h4 : v3 = true
    · replace hF := ite_t h4 hF
      have h4_ := h4
      try simp at h4_
      try simp [h2_, h2__, h2q, h4, h4_]
      repeat' apply And.intro
      try any_goals (first | omega | (unfold maxLen; omega) | (simp [h2_, h2__, h2q, h4, h4_]; done))
      obtain ⟨v4, h5, hF⟩ := bnd1_elim hF
      refine aCall_l (w_committee_Quorum k _ _ h5) (by simp) [] [] [] rfl (.cons (.same (by simp [h2_, h2__, h2q, h4, h4_])) .nil) (by simp [h2_, h2__, h2q, h4, h4_]) (by decide) (by simp) (by simp) (.inl rfl) (by simp) (by simp) ?_
      by_cases h6 : v4 = 4
      · replace hF := ite_t h6 hF
        have h6q : v4 = 4 := h6
        have h6_ := eqb_t h6q
        have h6__ := neb_f h6q
        try simp [h2_, h2__, h2q, h4, h4_, h6_, h6__, h6q]
        repeat' apply And.intro
        try any_goals (first | omega | (unfold maxLen; omega) | (simp [h2_, h2__, h2q, h4, h4_, h6_, h6__, h6q]; done))
        obtain ⟨v5, h7, hF⟩ := bnd1_elim hF
        refine aCall_l (w_committee_Quorum k _ _ h7) (by simp) [] [] [] rfl (.cons (.same (by simp [h2_, h2__, h2q, h4, h4_, h6_, h6__, h6q])) .nil) (by simp [h2_, h2__, h2q, h4, h4_, h6_, h6__, h6q]) (by decide) (by simp) (by simp) (.inl rfl) (by simp) (by simp) ?_
        by_cases h8 : v5 = 4
        · replace hF := ite_t h8 hF
          have h8q : v5 = 4 := h8
          have h8_ := eqb_t h8q
          have h8__ := neb_f h8q
          try simp [h2_, h2__, h2q, h4, h4_, h6_, h6__, h6q, h8_, h8__, h8q]
          repeat' apply And.intro
          try any_goals (first | omega | (unfold maxLen; omega) | (simp [h2_, h2__, h2q, h4, h4_, h6_, h6__, h6q, h8_, h8__, h8q]; done))
          obtain ⟨v6, h9, hF⟩ := bnd1_elim hF
          refine aCall_l (w_committee_Quorum k _ _ h9) (by simp) [] [] [] rfl (.cons (.same (by simp [h2_, h2__, h2q, h4, h4_, h6_, h6__, h6q, h8_, h8__, h8q])) .nil) (by simp [h2_, h2__, h2q, h4, h4_, h6_, h6__, h6q, h8_, h8__, h8q]) (by decide) (by simp) (by simp) (.inl rfl) (by simp) (by simp) ?_
          try simp [h2_, h2__, h2q, h4, h4_, h6_, h6__, h6q, h8_, h8__, h8q]
          repeat' apply And.intro
          any_goals (first | exact hG6 _ (by kernel_rfl) | refine hR6 _ _ _ ?_ | omega | (unfold maxLen; omega) | (simp [h2_, h2__, h2q, h4, h4_, h6_, h6__, h6q, h8_, h8__, h8q]; done) | (simp [h2_, h2__, h2q, h4, h4_, h6_, h6__, h6q, h8_, h8__, h8q]; omega))
          refine AW.wk [(0, AV.bool (v6 == 6))] [] 1 (by simp [h2_, h2__, h2q, h4, h4_, h6_, h6__, h6q, h8_, h8__, h8q]) (by simp [h2_, h2__, h2q, h4, h4_, h6_, h6__, h6q, h8_, h8__, h8q]) (by simp) ?_
          simp only [Option.some.injEq] at hF
          subst hF
          refine AW.ret (hQ _ _ _ ?_ (matchO_0 ?_)).1
          · simp [Try.f52, h2_, h2__, h2q, h4, h4_, h6_, h6__, h6q, h8_, h8__, h8q]
          · simp [h2_, h2__, h2q, h4, h4_, h6_, h6__, h6q, h8_, h8__, h8q]
        · replace hF := ite_f h8 hF
          have h8_ := eqb_f h8
          have h8__ := neb_t h8
          try simp [h2_, h2__, h2q, h4, h4_, h6_, h6__, h6q, h8, h8_, h8__]
          repeat' apply And.intro
          any_goals (first | exact hG6 _ (by kernel_rfl) | refine hR6 _ _ _ ?_ | omega | (unfold maxLen; omega) | (simp [h2_, h2__, h2q, h4, h4_, h6_, h6__, h6q, h8, h8_, h8__]; done) | (simp [h2_, h2__, h2q, h4, h4_, h6_, h6__, h6q, h8, h8_, h8__]; omega))
          refine AW.wk [(0, AV.bool false)] [] 1 (by simp [h2_, h2__, h2q, h4, h4_, h6_, h6__, h6q, h8, h8_, h8__]) (by simp [h2_, h2__, h2q, h4, h4_, h6_, h6__, h6q, h8, h8_, h8__]) (by simp) ?_
          simp only [Option.some.injEq] at hF
          subst hF
          refine AW.ret (hQ _ _ _ ?_ (matchO_0 ?_)).1
          · simp [Try.f52, h2_, h2__, h2q, h4, h4_, h6_, h6__, h6q, h8, h8_, h8__]
          · simp [h2_, h2__, h2q, h4, h4_, h6_, h6__, h6q, h8, h8_, h8__]
      · replace hF := ite_f h6 hF
        have h6_ := eqb_f h6
        have h6__ := neb_t h6
        try simp [h2_, h2__, h2q, h4, h4_, h6, h6_, h6__]
        repeat' apply And.intro
        any_goals (first | exact hG6 _ (by kernel_rfl) | refine hR6 _ _ _ ?_ | omega | (unfold maxLen; omega) | (simp [h2_, h2__, h2q, h4, h4_, h6, h6_, h6__]; done) | (simp [h2_, h2__, h2q, h4, h4_, h6, h6_, h6__]; omega))
        refine AW.wk [(0, AV.bool false)] [] 1 (by simp [h2_, h2__, h2q, h4, h4_, h6, h6_, h6__]) (by simp [h2_, h2__, h2q, h4, h4_, h6, h6_, h6__]) (by simp) ?_
        simp only [Option.some.injEq] at hF
        subst hF
        refine AW.ret (hQ _ _ _ ?_ (matchO_0 ?_)).1
        · simp [Try.f52, h2_, h2__, h2q, h4, h4_, h6, h6_, h6__]
        · simp [h2_, h2__, h2q, h4, h4_, h6, h6_, h6__]
    · replace hF := ite_f h4 hF
      have h4_ := h4
      try simp at h4_
      try simp [h2_, h2__, h2q, h4, h4_]
      repeat' apply And.intro
      any_goals (first | exact hG6 _ (by kernel_rfl) | refine hR6 _ _ _ ?_ | omega | (unfold maxLen; omega) | (simp [h2_, h2__, h2q, h4, h4_]; done) | (simp [h2_, h2__, h2q, h4, h4_]; omega))
      refine AW.wk [(0, AV.bool false)] [] 1 (by simp [h2_, h2__, h2q, h4, h4_]) (by simp [h2_, h2__, h2q, h4, h4_]) (by simp) ?_
      simp only [Option.some.injEq] at hF
      subst hF
      refine AW.ret (hQ _ _ _ ?_ (matchO_0 ?_)).1
      · simp [Try.f52, h2_, h2__, h2q, h4, h4_]
      · simp [h2_, h2__, h2q, h4, h4_]
  · replace hF := ite_f h2 hF
    have h2_ := eqb_f h2
    have h2__ := neb_t h2
    try simp [h2, h2_, h2__]
    repeat' apply And.intro
    any_goals (first | exact hG6 _ (by kernel_rfl) | refine hR6 _ _ _ ?_ | omega | (unfold maxLen; omega) | (simp [h2, h2_, h2__]; done) | (simp [h2, h2_, h2__]; omega))
    refine AW.wk [(0, AV.bool false)] [] 1 (by simp [h2, h2_, h2__]) (by simp [h2, h2_, h2__]) (by simp) ?_
    simp only [Option.some.injEq] at hF
    subst hF
    refine AW.ret (hQ _ _ _ ?_ (matchO_0 ?_)).1
    · simp [Try.f52, h2, h2_, h2__]
    · simp [h2, h2_, h2__]
set_option maxHeartbeats 4000000 in
theorem w_law26_CommitteeEvenly (k : Nat) (v0 : Int) (v1 : Int) (v2 : Bool) (hF : law26_CommitteeEvenly k v0 v1 = some v2) :
    FCall Try.prog 9 [AV.int .u8 v0, AV.int .u8 v1] [] (AV.bool v2) [] := by
  unfold law26_CommitteeEvenly at hF
  refine FCall.enter Try.func9 rfl (by simp) (by decide) (by simp) (by simp) (by simp) (by simp) (by simp) ?_
  intro c0 w0 Q h0 hQ
  refine AW.wk [(0, AV.int .u8 v0), (1, AV.int .u8 v1)] [] 0 (by simp) (by simp) (by simp) ?_
  refine AW.seqR mixed [] [none] (by kernel_rfl) fun G2670 R2670 hG2670 hR2670 => ?_
  try simp
  repeat' apply And.intro
  any_goals (first | exact hG2670 _ (by kernel_rfl) | refine hR2670 _ _ _ ?_ | omega | (unfold maxLen; omega) | (simp; done) | (simp; omega))
  refine AW.wk [(0, AV.int .u8 v0), (1, AV.int .u8 v1)] [] 0 (by simp) (by simp) (by simp) ?_
  refine AW.seqR mixed [] [none, none, none, none, none] (by kernel_rfl) fun G2671 R2671 hG2671 hR2671 => ?_
  try simp
  repeat' apply And.intro
  any_goals (first | exact hG2671 _ (by kernel_rfl) | refine hR2671 _ _ _ ?_ | omega | (unfold maxLen; omega) | (simp; done) | (simp; omega))
  refine AW.wk [(1, AV.int .u8 v1), (5, AV.int .i64 (IntKind.wrap .i64 (1 + Int.tmod (IntKind.wrap .i64 v0) 5)))] [] 0 (by simp) (by simp) (by simp) ?_
  refine AW.seqR mixed [] [none, none, none, none, none] (by kernel_rfl) fun G2672 R2672 hG2672 hR2672 => ?_
  try simp
  repeat' apply And.intro
  any_goals (first | exact hG2672 _ (by kernel_rfl) | refine hR2672 _ _ _ ?_ | omega | (unfold maxLen; omega) | (simp; done) | (simp; omega))
  refine AW.wk [(5, AV.int .i64 (IntKind.wrap .i64 (1 + Int.tmod (IntKind.wrap .i64 v0) 5))), (6, AV.int .i64 (IntKind.wrap .i64 (1 + Int.tmod (IntKind.wrap .i64 v1) 3)))] [] 0 (by simp) (by simp) (by simp) ?_
  refine AW.seqR mixed [] [none] (by kernel_rfl) fun G2673 R2673 hG2673 hR2673 => ?_
  try simp
  repeat' apply And.intro
  any_goals (first | exact hG2673 _ (by kernel_rfl) | refine hR2673 _ _ _ ?_ | omega | (unfold maxLen; omega) | (simp; done) | (simp; omega))
  refine AW.wk [(5, AV.int .i64 (IntKind.wrap .i64 (1 + Int.tmod (IntKind.wrap .i64 v0) 5))), (6, AV.int .i64 (IntKind.wrap .i64 (1 + Int.tmod (IntKind.wrap .i64 v1) 3))), (7, AV.lst true true (List.map (AV.int .i64) ([] : List Int)))] [] 0 (by simp) (by simp) (by simp) ?_
  refine AW.seq fun K2697 hK2697 => ?_
  refine AW.seqR mixed [] [none] (by kernel_rfl) fun G2698 R2698 hG2698 hR2698 => ?_
  try simp
  repeat' apply And.intro
  any_goals (first | exact hG2698 _ (by kernel_rfl) | refine hR2698 _ _ _ ?_ | omega | (unfold maxLen; omega) | (simp; done) | (simp; omega))
  refine AW.wk [(5, AV.int .i64 (IntKind.wrap .i64 (1 + Int.tmod (IntKind.wrap .i64 v0) 5))), (6, AV.int .i64 (IntKind.wrap .i64 (1 + Int.tmod (IntKind.wrap .i64 v1) 3))), (7, AV.lst true true (List.map (AV.int .i64) ([] : List Int))), (8, AV.int .i64 0)] [] 0 (by simp) (by simp) (by simp) ?_
  refine AW.block ?_
  refine AW.own' 7 1 true (by simp) (by decide) ?_
  refine AW.loopF (α := (Int × (List Int))) (fun n (v3, v4) => law26_CommitteeEvenly.L1 k v0 v1 n v3 v4 = some v2) (fun (v3, v4) => [(5, AV.int .i64 (IntKind.wrap .i64 (1 + Int.tmod (IntKind.wrap .i64 v0) 5))), (6, AV.int .i64 (IntKind.wrap .i64 (1 + Int.tmod (IntKind.wrap .i64 v1) 3))), (7, AV.slc 0 0 1 v4.length false), (8, AV.int .i64 v3)]) (fun (v3, v4) => [(0, .grow (List.map (AV.int .i64) v4))]) 1 k ((0, ([] : List Int))) hF (by simp) (by simp) (by simp) ?_
  rintro (_|n1) ⟨v3, v4⟩ hF K2713 hK2713
  · try dsimp only at hF
    rw [law26_CommitteeEvenly.L1] at hF; cases hF
  try dsimp only at hF
  rw [law26_CommitteeEvenly.L1] at hF
  refine AW.seq fun K2715 hK2715 => ?_
  refine AW.seqR mixed [] [none, none, none] (by kernel_rfl) fun G2716 R2716 hG2716 hR2716 => ?_
  try simp
  repeat' apply And.intro
  any_goals (first | exact hG2716 _ (by kernel_rfl) | refine hR2716 _ _ _ ?_ | omega | (unfold maxLen; omega) | (simp; done) | (simp; omega))
  refine AW.wk [(5, AV.int .i64 (IntKind.wrap .i64 (1 + Int.tmod (IntKind.wrap .i64 v0) 5))), (6, AV.int .i64 (IntKind.wrap .i64 (1 + Int.tmod (IntKind.wrap .i64 v1) 3))), (7, AV.slc 0 0 1 v4.length false), (8, AV.int .i64 v3), (31, AV.bool (decide (v3 < IntKind.wrap .i64 (1 + Int.tmod (IntKind.wrap .i64 v0) 5))))] [(0, .grow (List.map (AV.int .i64) v4))] 1 (by simp) (by simp) (by simp) ?_
  by_cases h1 : v3 < IntKind.wrap .i64 (1 + Int.tmod (IntKind.wrap .i64 v0) 5)
  · replace hF := ite_t h1 hF
    have h1_ := h1
    try simp at h1_
    refine AW.condT (by decide) (by first | (simp [h1, h1_]; done) | (simp [h1, h1_]; omega)) ?_
    refine AW.skip ?_
    refine hK2715 _ _ _ ?_
    refine AW.seq fun K2718 hK2718 => ?_
    refine AW.block ?_
    refine AW.region mixed [] [none, none, none, none, none, none, none] (by kernel_rfl) fun G2719 R2719 hG2719 hR2719 => ?_
    obtain ⟨h2, hF⟩ := chk_elim hF
    have h2_ := h2
    try simp at h2_
    try simp [h1, h1_, h2]
    repeat' apply And.intro
    any_goals (first | exact hG2719 _ (by kernel_rfl) | refine hR2719 _ _ _ ?_ | omega | (unfold maxLen; omega) | (simp [h1, h1_, h2]; done) | (simp [h1, h1_, h2]; omega))
    refine hK2718 _ _ _ ?_
    refine AW.wk [(5, AV.int .i64 (IntKind.wrap .i64 (1 + Int.tmod (IntKind.wrap .i64 v0) 5))), (6, AV.int .i64 (IntKind.wrap .i64 (1 + Int.tmod (IntKind.wrap .i64 v1) 3))), (7, AV.slc 1 0 1 ((v4 ++ ([IntKind.wrap .i64 (IntKind.wrap .i64 (3 * v3) + 1)] : List Int)).length) false), (8, AV.int .i64 v3)] [(1, .grow (List.map (AV.int .i64) (v4 ++ ([IntKind.wrap .i64 (IntKind.wrap .i64 (3 * v3) + 1)] : List Int))))] 2 (by simp [h1, h1_, h2]) (by simp [h1, h1_, h2]) (by simp) ?_
    refine AW.region mixed [] [none, none, none] (by kernel_rfl) fun G2720 R2720 hG2720 hR2720 => ?_
    try simp [h1, h1_, h2]
    repeat' apply And.intro
    any_goals (first | exact hG2720 _ (by kernel_rfl) | refine hR2720 _ _ _ ?_ | omega | (unfold maxLen; omega) | (simp [h1, h1_, h2]; done) | (simp [h1, h1_, h2]; omega))
    refine hK2713 _ _ _ ?_
    refine Can.weak [(5, AV.int .i64 (IntKind.wrap .i64 (1 + Int.tmod (IntKind.wrap .i64 v0) 5))), (6, AV.int .i64 (IntKind.wrap .i64 (1 + Int.tmod (IntKind.wrap .i64 v1) 3))), (7, AV.slc 1 0 1 ((v4 ++ ([IntKind.wrap .i64 (IntKind.wrap .i64 (3 * v3) + 1)] : List Int)).length) false), (8, AV.int .i64 (IntKind.wrap .i64 (v3 + 1)))] [(1, .grow (List.map (AV.int .i64) (v4 ++ ([IntKind.wrap .i64 (IntKind.wrap .i64 (3 * v3) + 1)] : List Int))))] 2 (by simp [h1, h1_, h2]) (by simp [h1, h1_, h2]) (by simp) ?_
    refine Can.ren (m := 0) h0 [(0, 1)] [(5, AV.int .i64 (IntKind.wrap .i64 (1 + Int.tmod (IntKind.wrap .i64 v0) 5))), (6, AV.int .i64 (IntKind.wrap .i64 (1 + Int.tmod (IntKind.wrap .i64 v1) 3))), (7, AV.slc 0 0 1 ((v4 ++ ([IntKind.wrap .i64 (IntKind.wrap .i64 (3 * v3) + 1)] : List Int)).length) false), (8, AV.int .i64 (IntKind.wrap .i64 (v3 + 1)))] [(0, .grow (List.map (AV.int .i64) (v4 ++ ([IntKind.wrap .i64 (IntKind.wrap .i64 (3 * v3) + 1)] : List Int))))] 1 (by decide) (by decide) (by decide) rfl (by simp [h1, h1_, h2]) (by simp [h1, h1_, h2]) ?_
    exact Can.next (k' := n1) ((IntKind.wrap .i64 (v3 + 1), v4 ++ ([IntKind.wrap .i64 (IntKind.wrap .i64 (3 * v3) + 1)] : List Int))) (by omega) hF (by simp [h1, h1_, h2]) (by simp [h1, h1_, h2]) (by simp)
  · replace hF := ite_f h1 hF
    have h1_ := h1
    try simp at h1_
    refine AW.condF (by decide) (by first | (simp [h1, h1_]; done) | (simp [h1, h1_]; omega)) ?_
    refine AW.exit ?_
    try simp
    refine hK2697 _ _ _ ?_
    refine AW.seqR mixed [] [none, none, none, none] (by kernel_rfl) fun G2721 R2721 hG2721 hR2721 => ?_
    obtain ⟨v5, h3, hF⟩ := let1_elim hF
    have h3_ := h3
    try simp at h3_
    try simp [h1, h1_, h3, h3_]
    repeat' apply And.intro
    any_goals (first | exact hG2721 _ (by kernel_rfl) | refine hR2721 _ _ _ ?_ | omega | (unfold maxLen; omega) | (simp [h1, h1_, h3, h3_]; done) | (simp [h1, h1_, h3, h3_]; omega))
    refine AW.wk [(5, AV.int .i64 (IntKind.wrap .i64 (1 + Int.tmod (IntKind.wrap .i64 v0) 5))), (6, AV.int .i64 (IntKind.wrap .i64 (1 + Int.tmod (IntKind.wrap .i64 v1) 3))), (7, AV.slc 0 0 1 v4.length false), (9, AV.int .i64 v5)] [(0, .grow (List.map (AV.int .i64) v4))] 1 (by simp [h1, h1_, h3, h3_]) (by simp [h1, h1_, h3, h3_]) (by simp) ?_
    refine AW.seqR mixed [] [none] (by kernel_rfl) fun G2722 R2722 hG2722 hR2722 => ?_
    try simp [h1, h1_, h3, h3_]
    repeat' apply And.intro
    any_goals (first | exact hG2722 _ (by kernel_rfl) | refine hR2722 _ _ _ ?_ | omega | (unfold maxLen; omega) | (simp [h1, h1_, h3, h3_]; done) | (simp [h1, h1_, h3, h3_]; omega))
    refine AW.wk [(5, AV.int .i64 (IntKind.wrap .i64 (1 + Int.tmod (IntKind.wrap .i64 v0) 5))), (6, AV.int .i64 (IntKind.wrap .i64 (1 + Int.tmod (IntKind.wrap .i64 v1) 3))), (7, AV.slc 0 0 1 v4.length false), (9, AV.int .i64 v5), (10, AV.int .i64 1)] [(0, .grow (List.map (AV.int .i64) v4))] 1 (by simp [h1, h1_, h3, h3_]) (by simp [h1, h1_, h3, h3_]) (by simp) ?_
    refine AW.seq fun K2746 hK2746 => ?_
    refine AW.seqR mixed [] [none] (by kernel_rfl) fun G2747 R2747 hG2747 hR2747 => ?_
    try simp [h1, h1_, h3, h3_]
    repeat' apply And.intro
    any_goals (first | exact hG2747 _ (by kernel_rfl) | refine hR2747 _ _ _ ?_ | omega | (unfold maxLen; omega) | (simp [h1, h1_, h3, h3_]; done) | (simp [h1, h1_, h3, h3_]; omega))
    refine AW.wk [(5, AV.int .i64 (IntKind.wrap .i64 (1 + Int.tmod (IntKind.wrap .i64 v0) 5))), (6, AV.int .i64 (IntKind.wrap .i64 (1 + Int.tmod (IntKind.wrap .i64 v1) 3))), (7, AV.slc 0 0 1 v4.length false), (9, AV.int .i64 v5), (10, AV.int .i64 1), (11, AV.int .i64 0)] [(0, .grow (List.map (AV.int .i64) v4))] 1 (by simp [h1, h1_, h3, h3_]) (by simp [h1, h1_, h3, h3_]) (by simp) ?_
    refine AW.block ?_
    refine AW.loopF (α := (Int × Int)) (fun n (v6, v7) => law26_CommitteeEvenly.L2 k v0 v1 v4 v5 n v6 v7 = some v2) (fun (v6, v7) => [(5, AV.int .i64 (IntKind.wrap .i64 (1 + Int.tmod (IntKind.wrap .i64 v0) 5))), (6, AV.int .i64 (IntKind.wrap .i64 (1 + Int.tmod (IntKind.wrap .i64 v1) 3))), (7, AV.slc 0 0 1 v4.length false), (9, AV.int .i64 v5), (10, AV.int .i64 v6), (11, AV.int .i64 v7)]) (fun (v6, v7) => [(0, .grow (List.map (AV.int .i64) v4))]) 1 k ((1, 0)) hF (by simp [h1, h1_, h3, h3_]) (by simp [h1, h1_, h3, h3_]) (by simp) ?_
    rintro (_|n2) ⟨v6, v7⟩ hF K2762 hK2762
    · try dsimp only at hF
      rw [law26_CommitteeEvenly.L2] at hF; cases hF
    try dsimp only at hF
    rw [law26_CommitteeEvenly.L2] at hF
    refine AW.seq fun K2764 hK2764 => ?_
    refine AW.seqR mixed [] [none, none, none] (by kernel_rfl) fun G2765 R2765 hG2765 hR2765 => ?_
    try simp [h1, h1_, h3, h3_]
    repeat' apply And.intro
    any_goals (first | exact hG2765 _ (by kernel_rfl) | refine hR2765 _ _ _ ?_ | omega | (unfold maxLen; omega) | (simp [h1, h1_, h3, h3_]; done) | (simp [h1, h1_, h3, h3_]; omega))
    refine AW.wk [(5, AV.int .i64 (IntKind.wrap .i64 (1 + Int.tmod (IntKind.wrap .i64 v0) 5))), (6, AV.int .i64 (IntKind.wrap .i64 (1 + Int.tmod (IntKind.wrap .i64 v1) 3))), (7, AV.slc 0 0 1 v4.length false), (9, AV.int .i64 v5), (10, AV.int .i64 v6), (11, AV.int .i64 v7), (45, AV.bool (decide (v7 < v5)))] [(0, .grow (List.map (AV.int .i64) v4))] 1 (by simp [h1, h1_, h3, h3_]) (by simp [h1, h1_, h3, h3_]) (by simp) ?_
    by_cases h4 : v7 < v5
    · replace hF := ite_t h4 hF
      have h4_ := h4
      try simp at h4_
      refine AW.condT (by decide) (by first | (simp [h1, h1_, h3, h3_, h4, h4_]; done) | (simp [h1, h1_, h3, h3_, h4, h4_]; omega)) ?_
      refine AW.skip ?_
      refine hK2764 _ _ _ ?_
      refine AW.seq fun K2767 hK2767 => ?_
      refine AW.block ?_
      refine AW.region mixed [] [none, none, none, none, none, none] (by kernel_rfl) fun G2768 R2768 hG2768 hR2768 => ?_
      try simp [h1, h1_, h3, h3_, h4, h4_]
      repeat' apply And.intro
      any_goals (first | exact hG2768 _ (by kernel_rfl) | refine hR2768 _ _ _ ?_ | omega | (unfold maxLen; omega) | (simp [h1, h1_, h3, h3_, h4, h4_]; done) | (simp [h1, h1_, h3, h3_, h4, h4_]; omega))
      refine hK2767 _ _ _ ?_
      refine AW.wk [(5, AV.int .i64 (IntKind.wrap .i64 (1 + Int.tmod (IntKind.wrap .i64 v0) 5))), (6, AV.int .i64 (IntKind.wrap .i64 (1 + Int.tmod (IntKind.wrap .i64 v1) 3))), (7, AV.slc 0 0 1 v4.length false), (9, AV.int .i64 v5), (10, AV.int .i64 (IntKind.wrap .i64 (v6 * IntKind.wrap .i64 (IntKind.wrap .i64 (1 + Int.tmod (IntKind.wrap .i64 v0) 5) - v7)))), (11, AV.int .i64 v7)] [(0, .grow (List.map (AV.int .i64) v4))] 1 (by simp [h1, h1_, h3, h3_, h4, h4_]) (by simp [h1, h1_, h3, h3_, h4, h4_]) (by simp) ?_
      refine AW.region mixed [] [none, none, none] (by kernel_rfl) fun G2769 R2769 hG2769 hR2769 => ?_
      try simp [h1, h1_, h3, h3_, h4, h4_]
      repeat' apply And.intro
      any_goals (first | exact hG2769 _ (by kernel_rfl) | refine hR2769 _ _ _ ?_ | omega | (unfold maxLen; omega) | (simp [h1, h1_, h3, h3_, h4, h4_]; done) | (simp [h1, h1_, h3, h3_, h4, h4_]; omega))
      refine hK2762 _ _ _ ?_
      refine Can.weak [(5, AV.int .i64 (IntKind.wrap .i64 (1 + Int.tmod (IntKind.wrap .i64 v0) 5))), (6, AV.int .i64 (IntKind.wrap .i64 (1 + Int.tmod (IntKind.wrap .i64 v1) 3))), (7, AV.slc 0 0 1 v4.length false), (9, AV.int .i64 v5), (10, AV.int .i64 (IntKind.wrap .i64 (v6 * IntKind.wrap .i64 (IntKind.wrap .i64 (1 + Int.tmod (IntKind.wrap .i64 v0) 5) - v7)))), (11, AV.int .i64 (IntKind.wrap .i64 (v7 + 1)))] [(0, .grow (List.map (AV.int .i64) v4))] 1 (by simp [h1, h1_, h3, h3_, h4, h4_]) (by simp [h1, h1_, h3, h3_, h4, h4_]) (by simp) ?_
      exact Can.next (k' := n2) ((IntKind.wrap .i64 (v6 * IntKind.wrap .i64 (IntKind.wrap .i64 (1 + Int.tmod (IntKind.wrap .i64 v0) 5) - v7)), IntKind.wrap .i64 (v7 + 1))) (by omega) hF (by simp [h1, h1_, h3, h3_, h4, h4_]) (by simp [h1, h1_, h3, h3_, h4, h4_]) (by simp)
    · replace hF := ite_f h4 hF
      have h4_ := h4
      try simp at h4_
      refine AW.condF (by decide) (by first | (simp [h1, h1_, h3, h3_, h4, h4_]; done) | (simp [h1, h1_, h3, h3_, h4, h4_]; omega)) ?_
      refine AW.exit ?_
      try simp
      refine hK2746 _ _ _ ?_
      refine AW.seqR mixed [53] [none, none] (by kernel_rfl) fun G2770 R2770 hG2770 hR2770 => ?_
      obtain ⟨h5, hF⟩ := chk_elim hF
      try simp [h1, h1_, h3, h3_, h4, h4_, h5]
      repeat' apply And.intro
      any_goals (first | exact hG2770 _ (by kernel_rfl) | refine hR2770 _ _ _ ?_ | omega | (unfold maxLen; omega) | (simp [h1, h1_, h3, h3_, h4, h4_, h5]; done) | (simp [h1, h1_, h3, h3_, h4, h4_, h5]; omega))
      refine AW.wk [(5, AV.int .i64 (IntKind.wrap .i64 (1 + Int.tmod (IntKind.wrap .i64 v0) 5))), (6, AV.int .i64 (IntKind.wrap .i64 (1 + Int.tmod (IntKind.wrap .i64 v1) 3))), (7, AV.slc 0 0 1 v4.length false), (9, AV.int .i64 v5), (10, AV.int .i64 v6), (12, AV.slc 1 0 1 ((List.replicate (4096 : Int).toNat 0).length) true)] [(0, .grow (List.map (AV.int .i64) v4)), (1, .cells (List.map (AV.int .i64) (List.replicate (4096 : Int).toNat 0)))] 2 (by simp [h1, h1_, h3, h3_, h4, h4_, h5]) (by simp [h1, h1_, h3, h3_, h4, h4_, h5]) (by simp) ?_
      refine AW.seq fun K4054 hK4054 => ?_
      refine AW.seqR mixed [] [none] (by kernel_rfl) fun G4055 R4055 hG4055 hR4055 => ?_
      try simp [h1, h1_, h3, h3_, h4, h4_, h5]
      repeat' apply And.intro
      any_goals (first | exact hG4055 _ (by kernel_rfl) | refine hR4055 _ _ _ ?_ | omega | (unfold maxLen; omega) | (simp [h1, h1_, h3, h3_, h4, h4_, h5]; done) | (simp [h1, h1_, h3, h3_, h4, h4_, h5]; omega))
      refine AW.wk [(5, AV.int .i64 (IntKind.wrap .i64 (1 + Int.tmod (IntKind.wrap .i64 v0) 5))), (6, AV.int .i64 (IntKind.wrap .i64 (1 + Int.tmod (IntKind.wrap .i64 v1) 3))), (7, AV.slc 0 0 1 v4.length false), (9, AV.int .i64 v5), (10, AV.int .i64 v6), (12, AV.slc 1 0 1 ((List.replicate (4096 : Int).toNat 0).length) true), (13, AV.int .i64 0)] [(0, .grow (List.map (AV.int .i64) v4)), (1, .cells (List.map (AV.int .i64) (List.replicate (4096 : Int).toNat 0)))] 2 (by simp [h1, h1_, h3, h3_, h4, h4_, h5]) (by simp [h1, h1_, h3, h3_, h4, h4_, h5]) (by simp) ?_
      refine AW.block ?_
      refine AW.loopF (α := (Int × (List Int))) (fun n (v8, v9) => law26_CommitteeEvenly.L3 k v0 v1 v4 v5 v6 n v8 v9 = some v2) (fun (v8, v9) => [(5, AV.int .i64 (IntKind.wrap .i64 (1 + Int.tmod (IntKind.wrap .i64 v0) 5))), (6, AV.int .i64 (IntKind.wrap .i64 (1 + Int.tmod (IntKind.wrap .i64 v1) 3))), (7, AV.slc 0 0 1 v4.length false), (9, AV.int .i64 v5), (10, AV.int .i64 v6), (12, AV.slc 1 0 1 v9.length true), (13, AV.int .i64 v8)]) (fun (v8, v9) => [(0, .grow (List.map (AV.int .i64) v4)), (1, .cells (List.map (AV.int .i64) v9))]) 2 k ((0, (List.replicate (4096 : Int).toNat 0))) hF (by simp [h1, h1_, h3, h3_, h4, h4_, h5]) (by simp [h1, h1_, h3, h3_, h4, h4_, h5]) (by simp) ?_
      rintro (_|n3) ⟨v8, v9⟩ hF K4910 hK4910
      · try dsimp only at hF
        rw [law26_CommitteeEvenly.L3] at hF; cases hF
      try dsimp only at hF
      rw [law26_CommitteeEvenly.L3] at hF
      refine AW.seq fun K4912 hK4912 => ?_
      refine AW.seqR mixed [] [none, none, none] (by kernel_rfl) fun G4913 R4913 hG4913 hR4913 => ?_
      try simp [h1, h1_, h3, h3_, h4, h4_, h5]
      repeat' apply And.intro
      any_goals (first | exact hG4913 _ (by kernel_rfl) | refine hR4913 _ _ _ ?_ | omega | (unfold maxLen; omega) | (simp [h1, h1_, h3, h3_, h4, h4_, h5]; done) | (simp [h1, h1_, h3, h3_, h4, h4_, h5]; omega))
      refine AW.wk [(5, AV.int .i64 (IntKind.wrap .i64 (1 + Int.tmod (IntKind.wrap .i64 v0) 5))), (6, AV.int .i64 (IntKind.wrap .i64 (1 + Int.tmod (IntKind.wrap .i64 v1) 3))), (7, AV.slc 0 0 1 v4.length false), (9, AV.int .i64 v5), (10, AV.int .i64 v6), (12, AV.slc 1 0 1 v9.length true), (13, AV.int .i64 v8), (56, AV.bool (decide (v8 < v6)))] [(0, .grow (List.map (AV.int .i64) v4)), (1, .cells (List.map (AV.int .i64) v9))] 2 (by simp [h1, h1_, h3, h3_, h4, h4_, h5]) (by simp [h1, h1_, h3, h3_, h4, h4_, h5]) (by simp) ?_
      by_cases h6 : v8 < v6
      · replace hF := ite_t h6 hF
        have h6_ := h6
        try simp at h6_
        refine AW.condT (by decide) (by first | (simp [h1, h1_, h3, h3_, h4, h4_, h5, h6, h6_]; done) | (simp [h1, h1_, h3, h3_, h4, h4_, h5, h6, h6_]; omega)) ?_
        refine AW.skip ?_
        refine hK4912 _ _ _ ?_
        refine AW.seq fun K5125 hK5125 => ?_
        refine AW.block ?_
        refine AW.seqR mixed [] [none] (by kernel_rfl) fun G5126 R5126 hG5126 hR5126 => ?_
        try simp [h1, h1_, h3, h3_, h4, h4_, h5, h6, h6_]
        repeat' apply And.intro
        any_goals (first | exact hG5126 _ (by kernel_rfl) | refine hR5126 _ _ _ ?_ | omega | (unfold maxLen; omega) | (simp [h1, h1_, h3, h3_, h4, h4_, h5, h6, h6_]; done) | (simp [h1, h1_, h3, h3_, h4, h4_, h5, h6, h6_]; omega))
        refine AW.wk [(5, AV.int .i64 (IntKind.wrap .i64 (1 + Int.tmod (IntKind.wrap .i64 v0) 5))), (6, AV.int .i64 (IntKind.wrap .i64 (1 + Int.tmod (IntKind.wrap .i64 v1) 3))), (7, AV.slc 0 0 1 v4.length false), (9, AV.int .i64 v5), (10, AV.int .i64 v6), (12, AV.slc 1 0 1 v9.length true), (13, AV.int .i64 v8), (14, AV.lst true true (List.map (AV.int .i64) ([] : List Int)))] [(0, .grow (List.map (AV.int .i64) v4)), (1, .cells (List.map (AV.int .i64) v9))] 2 (by simp [h1, h1_, h3, h3_, h4, h4_, h5, h6, h6_]) (by simp [h1, h1_, h3, h3_, h4, h4_, h5, h6, h6_]) (by simp) ?_
        refine AW.seqR mixed [] [none, none] (by kernel_rfl) fun G5127 R5127 hG5127 hR5127 => ?_
        try simp [h1, h1_, h3, h3_, h4, h4_, h5, h6, h6_]
        repeat' apply And.intro
        any_goals (first | exact hG5127 _ (by kernel_rfl) | refine hR5127 _ _ _ ?_ | omega | (unfold maxLen; omega) | (simp [h1, h1_, h3, h3_, h4, h4_, h5, h6, h6_]; done) | (simp [h1, h1_, h3, h3_, h4, h4_, h5, h6, h6_]; omega))
        refine AW.wk [(5, AV.int .i64 (IntKind.wrap .i64 (1 + Int.tmod (IntKind.wrap .i64 v0) 5))), (6, AV.int .i64 (IntKind.wrap .i64 (1 + Int.tmod (IntKind.wrap .i64 v1) 3))), (7, AV.slc 0 0 1 v4.length false), (9, AV.int .i64 v5), (10, AV.int .i64 v6), (12, AV.slc 1 0 1 v9.length true), (13, AV.int .i64 v8), (14, AV.lst true true (List.map (AV.int .i64) ([] : List Int))), (15, AV.int .i64 v8)] [(0, .grow (List.map (AV.int .i64) v4)), (1, .cells (List.map (AV.int .i64) v9))] 2 (by simp [h1, h1_, h3, h3_, h4, h4_, h5, h6, h6_]) (by simp [h1, h1_, h3, h3_, h4, h4_, h5, h6, h6_]) (by simp) ?_
        refine AW.seq fun K5157 hK5157 => ?_
        refine AW.seqR mixed [] [none] (by kernel_rfl) fun G5158 R5158 hG5158 hR5158 => ?_
        try simp [h1, h1_, h3, h3_, h4, h4_, h5, h6, h6_]
        repeat' apply And.intro
        any_goals (first | exact hG5158 _ (by kernel_rfl) | refine hR5158 _ _ _ ?_ | omega | (unfold maxLen; omega) | (simp [h1, h1_, h3, h3_, h4, h4_, h5, h6, h6_]; done) | (simp [h1, h1_, h3, h3_, h4, h4_, h5, h6, h6_]; omega))
        refine AW.wk [(5, AV.int .i64 (IntKind.wrap .i64 (1 + Int.tmod (IntKind.wrap .i64 v0) 5))), (6, AV.int .i64 (IntKind.wrap .i64 (1 + Int.tmod (IntKind.wrap .i64 v1) 3))), (7, AV.slc 0 0 1 v4.length false), (9, AV.int .i64 v5), (10, AV.int .i64 v6), (12, AV.slc 1 0 1 v9.length true), (13, AV.int .i64 v8), (14, AV.lst true true (List.map (AV.int .i64) ([] : List Int))), (15, AV.int .i64 v8), (16, AV.int .i64 0)] [(0, .grow (List.map (AV.int .i64) v4)), (1, .cells (List.map (AV.int .i64) v9))] 2 (by simp [h1, h1_, h3, h3_, h4, h4_, h5, h6, h6_]) (by simp [h1, h1_, h3, h3_, h4, h4_, h5, h6, h6_]) (by simp) ?_
        refine AW.block ?_
        refine AW.own' 14 1 true (by simp [h1, h1_, h3, h3_, h4, h4_, h5, h6, h6_]) (by decide) ?_
        refine AW.loopF (α := (Int × Int × (List Int))) (fun n (v10, v11, v12) => law26_CommitteeEvenly.L4 k v0 v1 v4 v5 v8 v9 (fun v8_ v9_ => law26_CommitteeEvenly.L3 k v0 v1 v4 v5 v6 n3 v8_ v9_) n v10 v11 v12 = some v2) (fun (v10, v11, v12) => [(5, AV.int .i64 (IntKind.wrap .i64 (1 + Int.tmod (IntKind.wrap .i64 v0) 5))), (6, AV.int .i64 (IntKind.wrap .i64 (1 + Int.tmod (IntKind.wrap .i64 v1) 3))), (7, AV.slc 0 0 1 v4.length false), (9, AV.int .i64 v5), (10, AV.int .i64 v6), (12, AV.slc 1 0 1 v9.length true), (13, AV.int .i64 v8), (14, AV.slc 2 0 1 v12.length false), (15, AV.int .i64 v10), (16, AV.int .i64 v11)]) (fun (v10, v11, v12) => [(0, .grow (List.map (AV.int .i64) v4)), (1, .cells (List.map (AV.int .i64) v9)), (2, .grow (List.map (AV.int .i64) v12))]) 3 k ((v8, 0, ([] : List Int))) hF (by simp [h1, h1_, h3, h3_, h4, h4_, h5, h6, h6_]) (by simp [h1, h1_, h3, h3_, h4, h4_, h5, h6, h6_]) (by simp) ?_
        rintro (_|n4) ⟨v10, v11, v12⟩ hF K5177 hK5177
        · try dsimp only at hF
          rw [law26_CommitteeEvenly.L4] at hF; cases hF
        try dsimp only at hF
        rw [law26_CommitteeEvenly.L4] at hF
        refine AW.seq fun K5179 hK5179 => ?_
        refine AW.seqR mixed [] [none, none, none] (by kernel_rfl) fun G5180 R5180 hG5180 hR5180 => ?_
        try simp [h1, h1_, h3, h3_, h4, h4_, h5, h6, h6_]
        repeat' apply And.intro
        any_goals (first | exact hG5180 _ (by kernel_rfl) | refine hR5180 _ _ _ ?_ | omega | (unfold maxLen; omega) | (simp [h1, h1_, h3, h3_, h4, h4_, h5, h6, h6_]; done) | (simp [h1, h1_, h3, h3_, h4, h4_, h5, h6, h6_]; omega))
        refine AW.wk [(5, AV.int .i64 (IntKind.wrap .i64 (1 + Int.tmod (IntKind.wrap .i64 v0) 5))), (6, AV.int .i64 (IntKind.wrap .i64 (1 + Int.tmod (IntKind.wrap .i64 v1) 3))), (7, AV.slc 0 0 1 v4.length false), (9, AV.int .i64 v5), (10, AV.int .i64 v6), (12, AV.slc 1 0 1 v9.length true), (13, AV.int .i64 v8), (14, AV.slc 2 0 1 v12.length false), (15, AV.int .i64 v10), (16, AV.int .i64 v11), (62, AV.bool (decide (v11 < v5)))] [(0, .grow (List.map (AV.int .i64) v4)), (1, .cells (List.map (AV.int .i64) v9)), (2, .grow (List.map (AV.int .i64) v12))] 3 (by simp [h1, h1_, h3, h3_, h4, h4_, h5, h6, h6_]) (by simp [h1, h1_, h3, h3_, h4, h4_, h5, h6, h6_]) (by simp) ?_
        by_cases h7 : v11 < v5
        · replace hF := ite_t h7 hF
          have h7_ := h7
          try simp at h7_
          refine AW.condT (by decide) (by first | (simp [h1, h1_, h3, h3_, h4, h4_, h5, h6, h6_, h7, h7_]; done) | (simp [h1, h1_, h3, h3_, h4, h4_, h5, h6, h6_, h7, h7_]; omega)) ?_
          refine AW.skip ?_
          refine hK5179 _ _ _ ?_
          refine AW.seq fun K5183 hK5183 => ?_
          refine AW.block ?_
          refine AW.seqR mixed [] [none, none, none, none, none, none, none, none, none] (by kernel_rfl) fun G5184 R5184 hG5184 hR5184 => ?_
          obtain ⟨h8, hF⟩ := chk_elim hF
          have h8_ := h8
          try simp at h8_
          obtain ⟨h9, hF⟩ := chk_elim hF
          have h9_ := h9
          try simp at h9_
          try simp [h1, h1_, h3, h3_, h4, h4_, h5, h6, h6_, h7, h7_, h8, h8_, h9]
          repeat' apply And.intro
          any_goals (first | exact hG5184 _ (by kernel_rfl) | refine hR5184 _ _ _ ?_ | omega | (unfold maxLen; omega) | (simp [h1, h1_, h3, h3_, h4, h4_, h5, h6, h6_, h7, h7_, h8, h8_, h9]; done) | (simp [h1, h1_, h3, h3_, h4, h4_, h5, h6, h6_, h7, h7_, h8, h8_, h9]; omega))
          refine AW.wk [(5, AV.int .i64 (IntKind.wrap .i64 (1 + Int.tmod (IntKind.wrap .i64 v0) 5))), (6, AV.int .i64 (IntKind.wrap .i64 (1 + Int.tmod (IntKind.wrap .i64 v1) 3))), (7, AV.slc 0 0 1 v4.length false), (9, AV.int .i64 v5), (10, AV.int .i64 v6), (12, AV.slc 1 0 1 v9.length true), (13, AV.int .i64 v8), (14, AV.slc 3 0 1 ((v12 ++ ([Int.tmod v10 (IntKind.wrap .i64 (IntKind.wrap .i64 (1 + Int.tmod (IntKind.wrap .i64 v0) 5) - v11))] : List Int)).length) false), (15, AV.int .i64 v10), (16, AV.int .i64 v11)] [(0, .grow (List.map (AV.int .i64) v4)), (1, .cells (List.map (AV.int .i64) v9)), (3, .grow (List.map (AV.int .i64) (v12 ++ ([Int.tmod v10 (IntKind.wrap .i64 (IntKind.wrap .i64 (1 + Int.tmod (IntKind.wrap .i64 v0) 5) - v11))] : List Int))))] 4 (by simp [h1, h1_, h3, h3_, h4, h4_, h5, h6, h6_, h7, h7_, h8, h8_, h9]) (by simp [h1, h1_, h3, h3_, h4, h4_, h5, h6, h6_, h7, h7_, h8, h8_, h9]) (by simp) ?_
          refine AW.region mixed [] [none, none, none, none, none, none] (by kernel_rfl) fun G5185 R5185 hG5185 hR5185 => ?_
          obtain ⟨h10, hF⟩ := chk_elim hF
          have h10_ := h10
          try simp at h10_
          try simp [h1, h1_, h3, h3_, h4, h4_, h5, h6, h6_, h7, h7_, h8, h8_, h9, h10, h10_]
          repeat' apply And.intro
          any_goals (first | exact hG5185 _ (by kernel_rfl) | refine hR5185 _ _ _ ?_ | omega | (unfold maxLen; omega) | (simp [h1, h1_, h3, h3_, h4, h4_, h5, h6, h6_, h7, h7_, h8, h8_, h9, h10, h10_]; done) | (simp [h1, h1_, h3, h3_, h4, h4_, h5, h6, h6_, h7, h7_, h8, h8_, h9, h10, h10_]; omega))
          refine hK5183 _ _ _ ?_
          refine AW.wk [(5, AV.int .i64 (IntKind.wrap .i64 (1 + Int.tmod (IntKind.wrap .i64 v0) 5))), (6, AV.int .i64 (IntKind.wrap .i64 (1 + Int.tmod (IntKind.wrap .i64 v1) 3))), (7, AV.slc 0 0 1 v4.length false), (9, AV.int .i64 v5), (10, AV.int .i64 v6), (12, AV.slc 1 0 1 v9.length true), (13, AV.int .i64 v8), (14, AV.slc 3 0 1 ((v12 ++ ([Int.tmod v10 (IntKind.wrap .i64 (IntKind.wrap .i64 (1 + Int.tmod (IntKind.wrap .i64 v0) 5) - v11))] : List Int)).length) false), (15, AV.int .i64 (IntKind.wrap .i64 (Int.tdiv v10 (IntKind.wrap .i64 (IntKind.wrap .i64 (1 + Int.tmod (IntKind.wrap .i64 v0) 5) - v11))))), (16, AV.int .i64 v11)] [(0, .grow (List.map (AV.int .i64) v4)), (1, .cells (List.map (AV.int .i64) v9)), (3, .grow (List.map (AV.int .i64) (v12 ++ ([Int.tmod v10 (IntKind.wrap .i64 (IntKind.wrap .i64 (1 + Int.tmod (IntKind.wrap .i64 v0) 5) - v11))] : List Int))))] 4 (by simp [h1, h1_, h3, h3_, h4, h4_, h5, h6, h6_, h7, h7_, h8, h8_, h9, h10, h10_]) (by simp [h1, h1_, h3, h3_, h4, h4_, h5, h6, h6_, h7, h7_, h8, h8_, h9, h10, h10_]) (by simp) ?_
          refine AW.region mixed [] [none, none, none] (by kernel_rfl) fun G5186 R5186 hG5186 hR5186 => ?_
          try simp [h1, h1_, h3, h3_, h4, h4_, h5, h6, h6_, h7, h7_, h8, h8_, h9, h10, h10_]
          repeat' apply And.intro
          any_goals (first | exact hG5186 _ (by kernel_rfl) | refine hR5186 _ _ _ ?_ | omega | (unfold maxLen; omega) | (simp [h1, h1_, h3, h3_, h4, h4_, h5, h6, h6_, h7, h7_, h8, h8_, h9, h10, h10_]; done) | (simp [h1, h1_, h3, h3_, h4, h4_, h5, h6, h6_, h7, h7_, h8, h8_, h9, h10, h10_]; omega))
          refine hK5177 _ _ _ ?_
          refine Can.weak [(5, AV.int .i64 (IntKind.wrap .i64 (1 + Int.tmod (IntKind.wrap .i64 v0) 5))), (6, AV.int .i64 (IntKind.wrap .i64 (1 + Int.tmod (IntKind.wrap .i64 v1) 3))), (7, AV.slc 0 0 1 v4.length false), (9, AV.int .i64 v5), (10, AV.int .i64 v6), (12, AV.slc 1 0 1 v9.length true), (13, AV.int .i64 v8), (14, AV.slc 3 0 1 ((v12 ++ ([Int.tmod v10 (IntKind.wrap .i64 (IntKind.wrap .i64 (1 + Int.tmod (IntKind.wrap .i64 v0) 5) - v11))] : List Int)).length) false), (15, AV.int .i64 (IntKind.wrap .i64 (Int.tdiv v10 (IntKind.wrap .i64 (IntKind.wrap .i64 (1 + Int.tmod (IntKind.wrap .i64 v0) 5) - v11))))), (16, AV.int .i64 (IntKind.wrap .i64 (v11 + 1)))] [(0, .grow (List.map (AV.int .i64) v4)), (1, .cells (List.map (AV.int .i64) v9)), (3, .grow (List.map (AV.int .i64) (v12 ++ ([Int.tmod v10 (IntKind.wrap .i64 (IntKind.wrap .i64 (1 + Int.tmod (IntKind.wrap .i64 v0) 5) - v11))] : List Int))))] 4 (by simp [h1, h1_, h3, h3_, h4, h4_, h5, h6, h6_, h7, h7_, h8, h8_, h9, h10, h10_]) (by simp [h1, h1_, h3, h3_, h4, h4_, h5, h6, h6_, h7, h7_, h8, h8_, h9, h10, h10_]) (by simp) ?_
          refine Can.ren (m := 0) h0 [(0, 0), (1, 1), (2, 3)] [(5, AV.int .i64 (IntKind.wrap .i64 (1 + Int.tmod (IntKind.wrap .i64 v0) 5))), (6, AV.int .i64 (IntKind.wrap .i64 (1 + Int.tmod (IntKind.wrap .i64 v1) 3))), (7, AV.slc 0 0 1 v4.length false), (9, AV.int .i64 v5), (10, AV.int .i64 v6), (12, AV.slc 1 0 1 v9.length true), (13, AV.int .i64 v8), (14, AV.slc 2 0 1 ((v12 ++ ([Int.tmod v10 (IntKind.wrap .i64 (IntKind.wrap .i64 (1 + Int.tmod (IntKind.wrap .i64 v0) 5) - v11))] : List Int)).length) false), (15, AV.int .i64 (IntKind.wrap .i64 (Int.tdiv v10 (IntKind.wrap .i64 (IntKind.wrap .i64 (1 + Int.tmod (IntKind.wrap .i64 v0) 5) - v11))))), (16, AV.int .i64 (IntKind.wrap .i64 (v11 + 1)))] [(0, .grow (List.map (AV.int .i64) v4)), (1, .cells (List.map (AV.int .i64) v9)), (2, .grow (List.map (AV.int .i64) (v12 ++ ([Int.tmod v10 (IntKind.wrap .i64 (IntKind.wrap .i64 (1 + Int.tmod (IntKind.wrap .i64 v0) 5) - v11))] : List Int))))] 3 (by decide) (by decide) (by decide) rfl (by simp [h1, h1_, h3, h3_, h4, h4_, h5, h6, h6_, h7, h7_, h8, h8_, h9, h10, h10_]) (by simp [h1, h1_, h3, h3_, h4, h4_, h5, h6, h6_, h7, h7_, h8, h8_, h9, h10, h10_]) ?_
          exact Can.next (k' := n4) ((IntKind.wrap .i64 (Int.tdiv v10 (IntKind.wrap .i64 (IntKind.wrap .i64 (1 + Int.tmod (IntKind.wrap .i64 v0) 5) - v11))), IntKind.wrap .i64 (v11 + 1), v12 ++ ([Int.tmod v10 (IntKind.wrap .i64 (IntKind.wrap .i64 (1 + Int.tmod (IntKind.wrap .i64 v0) 5) - v11))] : List Int))) (by omega) hF (by simp [h1, h1_, h3, h3_, h4, h4_, h5, h6, h6_, h7, h7_, h8, h8_, h9, h10, h10_]) (by simp [h1, h1_, h3, h3_, h4, h4_, h5, h6, h6_, h7, h7_, h8, h8_, h9, h10, h10_]) (by simp)
        · replace hF := ite_f h7 hF
          have h7_ := h7
          try simp at h7_
          refine AW.condF (by decide) (by first | (simp [h1, h1_, h3, h3_, h4, h4_, h5, h6, h6_, h7, h7_]; done) | (simp [h1, h1_, h3, h3_, h4, h4_, h5, h6, h6_, h7, h7_]; omega)) ?_
          refine AW.exit ?_
          try simp
          refine hK5157 _ _ _ ?_
          refine AW.seqR mixed [] [none, none, none, none, none, none, none, none, none] (by kernel_rfl) fun G5187 R5187 hG5187 hR5187 => ?_
          try simp [h1, h1_, h3, h3_, h4, h4_, h5, h6, h6_, h7, h7_]
          repeat' apply And.intro
          try any_goals (first | omega | (unfold maxLen; omega) | (simp [h1, h1_, h3, h3_, h4, h4_, h5, h6, h6_, h7, h7_]; done))
          obtain ⟨v13, v14, h11, hF⟩ := bnd2_elim hF
          refine aCall_l (w_committee_Draw k _ _ _ _ _ h11) (by simp) [] [0, 2] [] rfl (.cons (Coe.l (o := .grow (List.map (AV.int .i64) v4)) (by simp [h1, h1_, h3, h3_, h4, h4_, h5, h6, h6_, h7, h7_]) rfl (by simp [h1, h1_, h3, h3_, h4, h4_, h5, h6, h6_, h7, h7_]) (by simp [noIdsL]) (by simp [h1, h1_, h3, h3_, h4, h4_, h5, h6, h6_, h7, h7_]) (by simp [h1, h1_, h3, h3_, h4, h4_, h5, h6, h6_, h7, h7_])) (.cons (Coe.l (o := .grow (List.map (AV.int .i64) v12)) (by simp [h1, h1_, h3, h3_, h4, h4_, h5, h6, h6_, h7, h7_]) rfl (by simp [h1, h1_, h3, h3_, h4, h4_, h5, h6, h6_, h7, h7_]) (by simp [noIdsL]) (by simp [h1, h1_, h3, h3_, h4, h4_, h5, h6, h6_, h7, h7_]) (by simp [h1, h1_, h3, h3_, h4, h4_, h5, h6, h6_, h7, h7_])) (.cons (.same (by simp [h1, h1_, h3, h3_, h4, h4_, h5, h6, h6_, h7, h7_])) .nil))) (by simp [h1, h1_, h3, h3_, h4, h4_, h5, h6, h6_, h7, h7_]) (by decide) (by simp) (by simp) (.inr ⟨by simp, by simp⟩) (by simp) (by simp) ?_
          try simp [h1, h1_, h3, h3_, h4, h4_, h5, h6, h6_, h7, h7_]
          repeat' apply And.intro
          any_goals (first | exact hG5187 _ (by kernel_rfl) | refine hR5187 _ _ _ ?_ | omega | (unfold maxLen; omega) | (simp [h1, h1_, h3, h3_, h4, h4_, h5, h6, h6_, h7, h7_]; done) | (simp [h1, h1_, h3, h3_, h4, h4_, h5, h6, h6_, h7, h7_]; omega))
          refine AW.wk [(5, AV.int .i64 (IntKind.wrap .i64 (1 + Int.tmod (IntKind.wrap .i64 v0) 5))), (6, AV.int .i64 (IntKind.wrap .i64 (1 + Int.tmod (IntKind.wrap .i64 v1) 3))), (7, AV.slc 0 0 1 v4.length false), (9, AV.int .i64 v5), (10, AV.int .i64 v6), (12, AV.slc 1 0 1 v9.length true), (13, AV.int .i64 v8), (17, AV.slc 3 0 1 v13.length false), (18, AV.int .i64 v14)] [(0, .grow (List.map (AV.int .i64) v4)), (1, .cells (List.map (AV.int .i64) v9)), (3, .grow (List.map (AV.int .i64) v13))] 4 (by simp [h1, h1_, h3, h3_, h4, h4_, h5, h6, h6_, h7, h7_]) (by simp [h1, h1_, h3, h3_, h4, h4_, h5, h6, h6_, h7, h7_]) (by simp) ?_
          refine AW.frz 3 (o := .grow (List.map (AV.int .i64) v13)) (by simp [h1, h1_, h3, h3_, h4, h4_, h5, h6, h6_, h7, h7_]) rfl [(17, AV.lst false false (List.map (AV.int .i64) v13))] [] ⟨(.l (by simp) (by simp) (by simp) (by simp)), trivial⟩ trivial ?_
          refine AW.wk [(5, AV.int .i64 (IntKind.wrap .i64 (1 + Int.tmod (IntKind.wrap .i64 v0) 5))), (6, AV.int .i64 (IntKind.wrap .i64 (1 + Int.tmod (IntKind.wrap .i64 v1) 3))), (7, AV.slc 0 0 1 v4.length false), (9, AV.int .i64 v5), (10, AV.int .i64 v6), (12, AV.slc 1 0 1 v9.length true), (13, AV.int .i64 v8), (17, AV.lst false false (List.map (AV.int .i64) v13)), (18, AV.int .i64 v14)] [(0, .grow (List.map (AV.int .i64) v4)), (1, .cells (List.map (AV.int .i64) v9))] 4 (by simp [h1, h1_, h3, h3_, h4, h4_, h5, h6, h6_, h7, h7_]) (by simp [h1, h1_, h3, h3_, h4, h4_, h5, h6, h6_, h7, h7_]) (by simp) ?_
          refine AW.seq fun K5191 hK5191 => ?_
          refine AW.seqR mixed [] [none, none, none, some (87, false), some (87, false), some (87, false), some (87, false), none] (by kernel_rfl) fun G5192 R5192 hG5192 hR5192 => ?_
          by_cases h12 : v14 ≠ 0
          · replace hF := ite_t h12 hF
            have h12_ := eqb_f h12
            have h12__ := neb_t h12
            try simp [h1, h1_, h3, h3_, h4, h4_, h5, h6, h6_, h7, h7_, h12, h12_, h12__]
            repeat' apply And.intro
            any_goals (first | exact hG5192 _ (by kernel_rfl) | refine hR5192 _ _ _ ?_ | omega | (unfold maxLen; omega) | (simp [h1, h1_, h3, h3_, h4, h4_, h5, h6, h6_, h7, h7_, h12, h12_, h12__]; done) | (simp [h1, h1_, h3, h3_, h4, h4_, h5, h6, h6_, h7, h7_, h12, h12_, h12__]; omega))
            refine AW.wk [(5, AV.int .i64 (IntKind.wrap .i64 (1 + Int.tmod (IntKind.wrap .i64 v0) 5))), (6, AV.int .i64 (IntKind.wrap .i64 (1 + Int.tmod (IntKind.wrap .i64 v1) 3))), (7, AV.slc 0 0 1 v4.length false), (9, AV.int .i64 v5), (10, AV.int .i64 v6), (12, AV.slc 1 0 1 v9.length true), (13, AV.int .i64 v8), (17, AV.lst false false (List.map (AV.int .i64) v13)), (92, AV.bool true)] [(0, .grow (List.map (AV.int .i64) v4)), (1, .cells (List.map (AV.int .i64) v9))] 4 (by simp [h1, h1_, h3, h3_, h4, h4_, h5, h6, h6_, h7, h7_, h12, h12_, h12__]) (by simp [h1, h1_, h3, h3_, h4, h4_, h5, h6, h6_, h7, h7_, h12, h12_, h12__]) (by simp) ?_
            refine AW.condT (by decide) (by simp [h1, h1_, h3, h3_, h4, h4_, h5, h6, h6_, h7, h7_, h12, h12_, h12__]) ?_
            refine AW.seqR mixed [] [none] (by kernel_rfl) fun G5193 R5193 hG5193 hR5193 => ?_
            try simp [h1, h1_, h3, h3_, h4, h4_, h5, h6, h6_, h7, h7_, h12, h12_, h12__]
            repeat' apply And.intro
            any_goals (first | exact hG5193 _ (by kernel_rfl) | refine hR5193 _ _ _ ?_ | omega | (unfold maxLen; omega) | (simp [h1, h1_, h3, h3_, h4, h4_, h5, h6, h6_, h7, h7_, h12, h12_, h12__]; done) | (simp [h1, h1_, h3, h3_, h4, h4_, h5, h6, h6_, h7, h7_, h12, h12_, h12__]; omega))
            refine AW.wk [(4, AV.bool false)] [] 4 (by simp [h1, h1_, h3, h3_, h4, h4_, h5, h6, h6_, h7, h7_, h12, h12_, h12__]) (by simp [h1, h1_, h3, h3_, h4, h4_, h5, h6, h6_, h7, h7_, h12, h12_, h12__]) (by simp) ?_
            simp only [Option.some.injEq] at hF
            subst hF
            refine AW.ret (hQ _ _ _ ?_ (matchO_0 ?_)).1
            · simp [Try.f9, h1, h1_, h3, h3_, h4, h4_, h5, h6, h6_, h7, h7_, h12, h12_, h12__]
            · simp [h1, h1_, h3, h3_, h4, h4_, h5, h6, h6_, h7, h7_, h12, h12_, h12__]
          · replace hF := ite_f h12 hF
            have h12q : v14 = 0 := Classical.not_not.1 h12
            have h12_ := eqb_t h12q
            have h12__ := neb_f h12q
            try simp [h1, h1_, h3, h3_, h4, h4_, h5, h6, h6_, h7, h7_, h12_, h12__, h12q]
            repeat' apply And.intro
            any_goals (first | exact hG5192 _ (by kernel_rfl) | refine hR5192 _ _ _ ?_ | omega | (unfold maxLen; omega) | (simp [h1, h1_, h3, h3_, h4, h4_, h5, h6, h6_, h7, h7_, h12_, h12__, h12q]; done) | (simp [h1, h1_, h3, h3_, h4, h4_, h5, h6, h6_, h7, h7_, h12_, h12__, h12q]; omega))
            refine AW.wk [(5, AV.int .i64 (IntKind.wrap .i64 (1 + Int.tmod (IntKind.wrap .i64 v0) 5))), (6, AV.int .i64 (IntKind.wrap .i64 (1 + Int.tmod (IntKind.wrap .i64 v1) 3))), (7, AV.slc 0 0 1 v4.length false), (9, AV.int .i64 v5), (10, AV.int .i64 v6), (12, AV.slc 1 0 1 v9.length true), (13, AV.int .i64 v8), (17, AV.lst false false (List.map (AV.int .i64) v13)), (92, AV.bool ((v13.length : Int) != v5))] [(0, .grow (List.map (AV.int .i64) v4)), (1, .cells (List.map (AV.int .i64) v9))] 4 (by simp [h1, h1_, h3, h3_, h4, h4_, h5, h6, h6_, h7, h7_, h12_, h12__, h12q]) (by simp [h1, h1_, h3, h3_, h4, h4_, h5, h6, h6_, h7, h7_, h12_, h12__, h12q]) (by simp) ?_
            by_cases h13 : (v13.length : Int) ≠ v5
            · replace hF := ite_t h13 hF
              have h13_ := eqb_f h13
              have h13__ := neb_t h13
              refine AW.condT (by decide) (by first | (simp [h1, h1_, h3, h3_, h4, h4_, h5, h6, h6_, h7, h7_, h12_, h12__, h12q, h13, h13_, h13__]; done) | (simp [h1, h1_, h3, h3_, h4, h4_, h5, h6, h6_, h7, h7_, h12_, h12__, h12q, h13, h13_, h13__]; omega)) ?_
              refine AW.seqR mixed [] [none] (by kernel_rfl) fun G5194 R5194 hG5194 hR5194 => ?_
              try simp [h1, h1_, h3, h3_, h4, h4_, h5, h6, h6_, h7, h7_, h12_, h12__, h12q, h13, h13_, h13__]
              repeat' apply And.intro
              any_goals (first | exact hG5194 _ (by kernel_rfl) | refine hR5194 _ _ _ ?_ | omega | (unfold maxLen; omega) | (simp [h1, h1_, h3, h3_, h4, h4_, h5, h6, h6_, h7, h7_, h12_, h12__, h12q, h13, h13_, h13__]; done) | (simp [h1, h1_, h3, h3_, h4, h4_, h5, h6, h6_, h7, h7_, h12_, h12__, h12q, h13, h13_, h13__]; omega))
              refine AW.wk [(4, AV.bool false)] [] 4 (by simp [h1, h1_, h3, h3_, h4, h4_, h5, h6, h6_, h7, h7_, h12_, h12__, h12q, h13, h13_, h13__]) (by simp [h1, h1_, h3, h3_, h4, h4_, h5, h6, h6_, h7, h7_, h12_, h12__, h12q, h13, h13_, h13__]) (by simp) ?_
              simp only [Option.some.injEq] at hF
              subst hF
              refine AW.ret (hQ _ _ _ ?_ (matchO_0 ?_)).1
              · simp [Try.f9, h1, h1_, h3, h3_, h4, h4_, h5, h6, h6_, h7, h7_, h12_, h12__, h12q, h13, h13_, h13__]
              · simp [h1, h1_, h3, h3_, h4, h4_, h5, h6, h6_, h7, h7_, h12_, h12__, h12q, h13, h13_, h13__]
            · replace hF := ite_f h13 hF
              have h13q : (v13.length : Int) = v5 := Classical.not_not.1 h13
              have h13_ := eqb_t h13q
              have h13__ := neb_f h13q
              refine AW.condF (by decide) (by first | (simp [h1, h1_, h3, h3_, h4, h4_, h5, h6, h6_, h7, h7_, h12_, h12__, h12q, h13_, h13__]; done) | (simp [h1, h1_, h3, h3_, h4, h4_, h5, h6, h6_, h7, h7_, h12_, h12__, h12q, h13_, h13__]; omega)) ?_
              refine AW.skip ?_
              refine hK5191 _ _ _ ?_
              refine AW.seqR mixed [] [none] (by kernel_rfl) fun G5195 R5195 hG5195 hR5195 => ?_
              try simp [h1, h1_, h3, h3_, h4, h4_, h5, h6, h6_, h7, h7_, h12_, h12__, h12q, h13_, h13__]
              repeat' apply And.intro
              any_goals (first | exact hG5195 _ (by kernel_rfl) | refine hR5195 _ _ _ ?_ | omega | (unfold maxLen; omega) | (simp [h1, h1_, h3, h3_, h4, h4_, h5, h6, h6_, h7, h7_, h12_, h12__, h12q, h13_, h13__]; done) | (simp [h1, h1_, h3, h3_, h4, h4_, h5, h6, h6_, h7, h7_, h12_, h12__, h12q, h13_, h13__]; omega))
              refine AW.wk [(5, AV.int .i64 (IntKind.wrap .i64 (1 + Int.tmod (IntKind.wrap .i64 v0) 5))), (6, AV.int .i64 (IntKind.wrap .i64 (1 + Int.tmod (IntKind.wrap .i64 v1) 3))), (7, AV.slc 0 0 1 v4.length false), (9, AV.int .i64 v5), (10, AV.int .i64 v6), (12, AV.slc 1 0 1 v9.length true), (13, AV.int .i64 v8), (17, AV.lst false false (List.map (AV.int .i64) v13)), (19, AV.int .i64 0)] [(0, .grow (List.map (AV.int .i64) v4)), (1, .cells (List.map (AV.int .i64) v9))] 4 (by simp [h1, h1_, h3, h3_, h4, h4_, h5, h6, h6_, h7, h7_, h12_, h12__, h12q, h13_, h13__]) (by simp [h1, h1_, h3, h3_, h4, h4_, h5, h6, h6_, h7, h7_, h12_, h12__, h12q, h13_, h13__]) (by simp) ?_
              refine AW.seq fun K5261 hK5261 => ?_
              refine AW.seqR mixed [] [none] (by kernel_rfl) fun G5262 R5262 hG5262 hR5262 => ?_
              try simp [h1, h1_, h3, h3_, h4, h4_, h5, h6, h6_, h7, h7_, h12_, h12__, h12q, h13_, h13__]
              repeat' apply And.intro
              any_goals (first | exact hG5262 _ (by kernel_rfl) | refine hR5262 _ _ _ ?_ | omega | (unfold maxLen; omega) | (simp [h1, h1_, h3, h3_, h4, h4_, h5, h6, h6_, h7, h7_, h12_, h12__, h12q, h13_, h13__]; done) | (simp [h1, h1_, h3, h3_, h4, h4_, h5, h6, h6_, h7, h7_, h12_, h12__, h12q, h13_, h13__]; omega))
              refine AW.wk [(5, AV.int .i64 (IntKind.wrap .i64 (1 + Int.tmod (IntKind.wrap .i64 v0) 5))), (6, AV.int .i64 (IntKind.wrap .i64 (1 + Int.tmod (IntKind.wrap .i64 v1) 3))), (7, AV.slc 0 0 1 v4.length false), (9, AV.int .i64 v5), (10, AV.int .i64 v6), (12, AV.slc 1 0 1 v9.length true), (13, AV.int .i64 v8), (17, AV.lst false false (List.map (AV.int .i64) v13)), (19, AV.int .i64 0), (20, AV.int .i64 0)] [(0, .grow (List.map (AV.int .i64) v4)), (1, .cells (List.map (AV.int .i64) v9))] 4 (by simp [h1, h1_, h3, h3_, h4, h4_, h5, h6, h6_, h7, h7_, h12_, h12__, h12q, h13_, h13__]) (by simp [h1, h1_, h3, h3_, h4, h4_, h5, h6, h6_, h7, h7_, h12_, h12__, h12q, h13_, h13__]) (by simp) ?_
              refine AW.block ?_
              refine AW.rnm (m := 0) h0 [(0, 0), (1, 1)] [(5, AV.int .i64 (IntKind.wrap .i64 (1 + Int.tmod (IntKind.wrap .i64 v0) 5))), (6, AV.int .i64 (IntKind.wrap .i64 (1 + Int.tmod (IntKind.wrap .i64 v1) 3))), (7, AV.slc 0 0 1 v4.length false), (9, AV.int .i64 v5), (10, AV.int .i64 v6), (12, AV.slc 1 0 1 v9.length true), (13, AV.int .i64 v8), (17, AV.lst false false (List.map (AV.int .i64) v13)), (19, AV.int .i64 0), (20, AV.int .i64 0)] [(0, .grow (List.map (AV.int .i64) v4)), (1, .cells (List.map (AV.int .i64) v9))] 2 (by decide) (by decide) (by decide) rfl (by simp [h1, h1_, h3, h3_, h4, h4_, h5, h6, h6_, h7, h7_, h12_, h12__, h12q, h13_, h13__]) (by simp [h1, h1_, h3, h3_, h4, h4_, h5, h6, h6_, h7, h7_, h12_, h12__, h12q, h13_, h13__]) ?_
              refine AW.loopF (α := (Int × Int)) (fun n (v15, v16) => law26_CommitteeEvenly.L5 k v4 v8 v9 v13 (fun v8_ v9_ => law26_CommitteeEvenly.L3 k v0 v1 v4 v5 v6 n3 v8_ v9_) n v15 v16 = some v2) (fun (v15, v16) => [(5, AV.int .i64 (IntKind.wrap .i64 (1 + Int.tmod (IntKind.wrap .i64 v0) 5))), (6, AV.int .i64 (IntKind.wrap .i64 (1 + Int.tmod (IntKind.wrap .i64 v1) 3))), (7, AV.slc 0 0 1 v4.length false), (9, AV.int .i64 v5), (10, AV.int .i64 v6), (12, AV.slc 1 0 1 v9.length true), (13, AV.int .i64 v8), (17, AV.lst false false (List.map (AV.int .i64) v13)), (19, AV.int .i64 v15), (20, AV.int .i64 v16)]) (fun (v15, v16) => [(0, .grow (List.map (AV.int .i64) v4)), (1, .cells (List.map (AV.int .i64) v9))]) 2 k ((0, 0)) hF (by simp [h1, h1_, h3, h3_, h4, h4_, h5, h6, h6_, h7, h7_, h12_, h12__, h12q, h13_, h13__]) (by simp [h1, h1_, h3, h3_, h4, h4_, h5, h6, h6_, h7, h7_, h12_, h12__, h12q, h13_, h13__]) (by simp) ?_
              rintro (_|n5) ⟨v15, v16⟩ hF K5305 hK5305
              · try dsimp only at hF
                rw [law26_CommitteeEvenly.L5] at hF; cases hF
              try dsimp only at hF
              rw [law26_CommitteeEvenly.L5] at hF
              refine AW.seq fun K5307 hK5307 => ?_
              refine AW.seqR mixed [] [none, none, none, none] (by kernel_rfl) fun G5308 R5308 hG5308 hR5308 => ?_
              try simp [h1, h1_, h3, h3_, h4, h4_, h5, h6, h6_, h7, h7_, h12_, h12__, h12q, h13_, h13__]
              repeat' apply And.intro
              any_goals (first | exact hG5308 _ (by kernel_rfl) | refine hR5308 _ _ _ ?_ | omega | (unfold maxLen; omega) | (simp [h1, h1_, h3, h3_, h4, h4_, h5, h6, h6_, h7, h7_, h12_, h12__, h12q, h13_, h13__]; done) | (simp [h1, h1_, h3, h3_, h4, h4_, h5, h6, h6_, h7, h7_, h12_, h12__, h12q, h13_, h13__]; omega))
              refine AW.wk [(5, AV.int .i64 (IntKind.wrap .i64 (1 + Int.tmod (IntKind.wrap .i64 v0) 5))), (6, AV.int .i64 (IntKind.wrap .i64 (1 + Int.tmod (IntKind.wrap .i64 v1) 3))), (7, AV.slc 0 0 1 v4.length false), (9, AV.int .i64 v5), (10, AV.int .i64 v6), (12, AV.slc 1 0 1 v9.length true), (13, AV.int .i64 v8), (17, AV.lst false false (List.map (AV.int .i64) v13)), (19, AV.int .i64 v15), (20, AV.int .i64 v16), (96, AV.bool (decide (v16 < (v13.length : Int))))] [(0, .grow (List.map (AV.int .i64) v4)), (1, .cells (List.map (AV.int .i64) v9))] 2 (by simp [h1, h1_, h3, h3_, h4, h4_, h5, h6, h6_, h7, h7_, h12_, h12__, h12q, h13_, h13__]) (by simp [h1, h1_, h3, h3_, h4, h4_, h5, h6, h6_, h7, h7_, h12_, h12__, h12q, h13_, h13__]) (by simp) ?_
              by_cases h14 : v16 < (v13.length : Int)
              · replace hF := ite_t h14 hF
                have h14_ := h14
                try simp at h14_
                refine AW.condT (by decide) (by first | (simp [h1, h1_, h3, h3_, h4, h4_, h5, h6, h6_, h7, h7_, h12_, h12__, h12q, h13_, h13__, h14, h14_]; done) | (simp [h1, h1_, h3, h3_, h4, h4_, h5, h6, h6_, h7, h7_, h12_, h12__, h12q, h13_, h13__, h14, h14_]; omega)) ?_
                refine AW.skip ?_
                refine hK5307 _ _ _ ?_
                refine AW.seq fun K5317 hK5317 => ?_
                refine AW.block ?_
                refine AW.seq fun K5321 hK5321 => ?_
                refine AW.seqR mixed [] [none, none, none, none, none, none, none, none, some (106, false), some (106, false), some (106, false), some (106, false), some (106, false), some (106, false), some (106, false), some (106, false), none] (by kernel_rfl) fun G5322 R5322 hG5322 hR5322 => ?_
                obtain ⟨v17, h15, h16, h17, hF⟩ := idx_elim hF
                have h17_ := get_of h17
                try simp at h17_
                have h16_ := h16
                try simp at h16_
                try simp [h1, h1_, h3, h3_, h4, h4_, h5, h6, h6_, h7, h7_, h12_, h12__, h12q, h13_, h13__, h14, h14_, h15, h16, h17, h17_, h16_]
                repeat' apply And.intro
                try any_goals (first | omega | (unfold maxLen; omega) | (simp [h1, h1_, h3, h3_, h4, h4_, h5, h6, h6_, h7, h7_, h12_, h12__, h12q, h13_, h13__, h14, h14_, h15, h16, h17, h17_, h16_]; done))
                obtain ⟨v18, h18, hF⟩ := bnd1_elim hF
                refine aCall_l (w_ref24_Has k _ _ _ h18) (by simp) [] [0] [] rfl (.cons (Coe.l (o := .grow (List.map (AV.int .i64) v4)) (by simp [h1, h1_, h3, h3_, h4, h4_, h5, h6, h6_, h7, h7_, h12_, h12__, h12q, h13_, h13__, h14, h14_, h15, h16, h17, h17_, h16_]) rfl (by simp [h1, h1_, h3, h3_, h4, h4_, h5, h6, h6_, h7, h7_, h12_, h12__, h12q, h13_, h13__, h14, h14_, h15, h16, h17, h17_, h16_]) (by simp [noIdsL]) (by simp [h1, h1_, h3, h3_, h4, h4_, h5, h6, h6_, h7, h7_, h12_, h12__, h12q, h13_, h13__, h14, h14_, h15, h16, h17, h17_, h16_]) (by simp [h1, h1_, h3, h3_, h4, h4_, h5, h6, h6_, h7, h7_, h12_, h12__, h12q, h13_, h13__, h14, h14_, h15, h16, h17, h17_, h16_])) (.cons (.same (by simp [h1, h1_, h3, h3_, h4, h4_, h5, h6, h6_, h7, h7_, h12_, h12__, h12q, h13_, h13__, h14, h14_, h15, h16, h17, h17_, h16_])) .nil)) (by simp [h1, h1_, h3, h3_, h4, h4_, h5, h6, h6_, h7, h7_, h12_, h12__, h12q, h13_, h13__, h14, h14_, h15, h16, h17, h17_, h16_]) (by decide) (by simp) (by simp) (.inr ⟨by simp, by simp⟩) (by simp) (by simp) ?_
                by_cases h19 : (!v18) = true
                · replace hF := ite_t h19 hF
                  have h19_ := h19
                  try simp at h19_
                  try simp [h1, h1_, h3, h3_, h4, h4_, h5, h6, h6_, h7, h7_, h12_, h12__, h12q, h13_, h13__, h14, h14_, h15, h16, h17, h17_, h16_, h19, h19_]
                  repeat' apply And.intro
                  any_goals (first | exact hG5322 _ (by kernel_rfl) | refine hR5322 _ _ _ ?_ | omega | (unfold maxLen; omega) | (simp [h1, h1_, h3, h3_, h4, h4_, h5, h6, h6_, h7, h7_, h12_, h12__, h12q, h13_, h13__, h14, h14_, h15, h16, h17, h17_, h16_, h19, h19_]; done) | (simp [h1, h1_, h3, h3_, h4, h4_, h5, h6, h6_, h7, h7_, h12_, h12__, h12q, h13_, h13__, h14, h14_, h15, h16, h17, h17_, h16_, h19, h19_]; omega))
                  refine AW.wk [(5, AV.int .i64 (IntKind.wrap .i64 (1 + Int.tmod (IntKind.wrap .i64 v0) 5))), (6, AV.int .i64 (IntKind.wrap .i64 (1 + Int.tmod (IntKind.wrap .i64 v1) 3))), (7, AV.slc 0 0 1 v4.length false), (9, AV.int .i64 v5), (10, AV.int .i64 v6), (12, AV.slc 1 0 1 v9.length true), (13, AV.int .i64 v8), (17, AV.lst false false (List.map (AV.int .i64) v13)), (19, AV.int .i64 v15), (20, AV.int .i64 v16), (115, AV.bool true)] [(0, .grow (List.map (AV.int .i64) v4)), (1, .cells (List.map (AV.int .i64) v9))] 2 (by simp [h1, h1_, h3, h3_, h4, h4_, h5, h6, h6_, h7, h7_, h12_, h12__, h12q, h13_, h13__, h14, h14_, h15, h16, h17, h17_, h16_, h19, h19_]) (by simp [h1, h1_, h3, h3_, h4, h4_, h5, h6, h6_, h7, h7_, h12_, h12__, h12q, h13_, h13__, h14, h14_, h15, h16, h17, h17_, h16_, h19, h19_]) (by simp) ?_
                  refine AW.condT (by decide) (by simp [h1, h1_, h3, h3_, h4, h4_, h5, h6, h6_, h7, h7_, h12_, h12__, h12q, h13_, h13__, h14, h14_, h15, h16, h17, h17_, h16_, h19, h19_]) ?_
                  refine AW.seqR mixed [] [none] (by kernel_rfl) fun G5323 R5323 hG5323 hR5323 => ?_
                  try simp [h1, h1_, h3, h3_, h4, h4_, h5, h6, h6_, h7, h7_, h12_, h12__, h12q, h13_, h13__, h14, h14_, h15, h16, h17, h17_, h16_, h19, h19_]
                  repeat' apply And.intro
                  any_goals (first | exact hG5323 _ (by kernel_rfl) | refine hR5323 _ _ _ ?_ | omega | (unfold maxLen; omega) | (simp [h1, h1_, h3, h3_, h4, h4_, h5, h6, h6_, h7, h7_, h12_, h12__, h12q, h13_, h13__, h14, h14_, h15, h16, h17, h17_, h16_, h19, h19_]; done) | (simp [h1, h1_, h3, h3_, h4, h4_, h5, h6, h6_, h7, h7_, h12_, h12__, h12q, h13_, h13__, h14, h14_, h15, h16, h17, h17_, h16_, h19, h19_]; omega))
                  refine AW.wk [(4, AV.bool false)] [] 2 (by simp [h1, h1_, h3, h3_, h4, h4_, h5, h6, h6_, h7, h7_, h12_, h12__, h12q, h13_, h13__, h14, h14_, h15, h16, h17, h17_, h16_, h19, h19_]) (by simp [h1, h1_, h3, h3_, h4, h4_, h5, h6, h6_, h7, h7_, h12_, h12__, h12q, h13_, h13__, h14, h14_, h15, h16, h17, h17_, h16_, h19, h19_]) (by simp) ?_
                  simp only [Option.some.injEq] at hF
                  subst hF
                  refine AW.ret (hQ _ _ _ ?_ (matchO_0 ?_)).1
                  · simp [Try.f9, h1, h1_, h3, h3_, h4, h4_, h5, h6, h6_, h7, h7_, h12_, h12__, h12q, h13_, h13__, h14, h14_, h15, h16, h17, h17_, h16_, h19, h19_]
                  · simp [h1, h1_, h3, h3_, h4, h4_, h5, h6, h6_, h7, h7_, h12_, h12__, h12q, h13_, h13__, h14, h14_, h15, h16, h17, h17_, h16_, h19, h19_]
                · replace hF := ite_f h19 hF
                  have h19_ := h19
                  try simp at h19_
                  obtain ⟨⟨h20, h21⟩, hF⟩ := chk_elim hF
                  have h20_ := h20
                  try simp at h20_
                  have h21_ := h21
                  try simp at h21_
                  try simp [h1, h1_, h3, h3_, h4, h4_, h5, h6, h6_, h7, h7_, h12_, h12__, h12q, h13_, h13__, h14, h14_, h15, h16, h17, h17_, h16_, h19, h19_, h20, h21, h20_, h21_]
                  repeat' apply And.intro
                  try any_goals (first | omega | (unfold maxLen; omega) | (simp [h1, h1_, h3, h3_, h4, h4_, h5, h6, h6_, h7, h7_, h12_, h12__, h12q, h13_, h13__, h14, h14_, h15, h16, h17, h17_, h16_, h19, h19_, h20, h21, h20_, h21_]; done))
                  obtain ⟨v19, h22, hF⟩ := bnd1_elim hF
                  refine aCall_l (w_ref24_Has k _ _ _ h22) (by simp) [] [] [] rfl (.cons (.same (by simp [h1, h1_, h3, h3_, h4, h4_, h5, h6, h6_, h7, h7_, h12_, h12__, h12q, h13_, h13__, h14, h14_, h15, h16, h17, h17_, h16_, h19, h19_, h20, h21, h20_, h21_])) (.cons (.same (by simp [h1, h1_, h3, h3_, h4, h4_, h5, h6, h6_, h7, h7_, h12_, h12__, h12q, h13_, h13__, h14, h14_, h15, h16, h17, h17_, h16_, h19, h19_, h20, h21, h20_, h21_])) .nil)) (by simp [h1, h1_, h3, h3_, h4, h4_, h5, h6, h6_, h7, h7_, h12_, h12__, h12q, h13_, h13__, h14, h14_, h15, h16, h17, h17_, h16_, h19, h19_, h20, h21, h20_, h21_]) (by decide) (by simp) (by simp) (.inl rfl) (by simp) (by simp) ?_
                  try simp [h1, h1_, h3, h3_, h4, h4_, h5, h6, h6_, h7, h7_, h12_, h12__, h12q, h13_, h13__, h14, h14_, h15, h16, h17, h17_, h16_, h19, h19_, h20, h21, h20_, h21_]
                  repeat' apply And.intro
                  any_goals (first | exact hG5322 _ (by kernel_rfl) | refine hR5322 _ _ _ ?_ | omega | (unfold maxLen; omega) | (simp [h1, h1_, h3, h3_, h4, h4_, h5, h6, h6_, h7, h7_, h12_, h12__, h12q, h13_, h13__, h14, h14_, h15, h16, h17, h17_, h16_, h19, h19_, h20, h21, h20_, h21_]; done) | (simp [h1, h1_, h3, h3_, h4, h4_, h5, h6, h6_, h7, h7_, h12_, h12__, h12q, h13_, h13__, h14, h14_, h15, h16, h17, h17_, h16_, h19, h19_, h20, h21, h20_, h21_]; omega))
                  refine AW.wk [(5, AV.int .i64 (IntKind.wrap .i64 (1 + Int.tmod (IntKind.wrap .i64 v0) 5))), (6, AV.int .i64 (IntKind.wrap .i64 (1 + Int.tmod (IntKind.wrap .i64 v1) 3))), (7, AV.slc 0 0 1 v4.length false), (9, AV.int .i64 v5), (10, AV.int .i64 v6), (12, AV.slc 1 0 1 v9.length true), (13, AV.int .i64 v8), (17, AV.lst false false (List.map (AV.int .i64) v13)), (19, AV.int .i64 v15), (20, AV.int .i64 v16), (115, AV.bool v19)] [(0, .grow (List.map (AV.int .i64) v4)), (1, .cells (List.map (AV.int .i64) v9))] 2 (by simp [h1, h1_, h3, h3_, h4, h4_, h5, h6, h6_, h7, h7_, h12_, h12__, h12q, h13_, h13__, h14, h14_, h15, h16, h17, h17_, h16_, h19, h19_, h20, h21, h20_, h21_]) (by simp [h1, h1_, h3, h3_, h4, h4_, h5, h6, h6_, h7, h7_, h12_, h12__, h12q, h13_, h13__, h14, h14_, h15, h16, h17, h17_, h16_, h19, h19_, h20, h21, h20_, h21_]) (by simp) ?_
                  by_cases h23 : v19 = true
                  · replace hF := ite_t h23 hF
                    have h23_ := h23
                    try simp at h23_
                    refine AW.condT (by decide) (by first | (simp [h1, h1_, h3, h3_, h4, h4_, h5, h6, h6_, h7, h7_, h12_, h12__, h12q, h13_, h13__, h14, h14_, h15, h16, h17, h17_, h16_, h19, h19_, h20, h21, h20_, h21_, h23, h23_]; done) | (simp [h1, h1_, h3, h3_, h4, h4_, h5, h6, h6_, h7, h7_, h12_, h12__, h12q, h13_, h13__, h14, h14_, h15, h16, h17, h17_, h16_, h19, h19_, h20, h21, h20_, h21_, h23, h23_]; omega)) ?_
                    refine AW.seqR mixed [] [none] (by kernel_rfl) fun G5324 R5324 hG5324 hR5324 => ?_
                    try simp [h1, h1_, h3, h3_, h4, h4_, h5, h6, h6_, h7, h7_, h12_, h12__, h12q, h13_, h13__, h14, h14_, h15, h16, h17, h17_, h16_, h19, h19_, h20, h21, h20_, h21_, h23, h23_]
                    repeat' apply And.intro
                    any_goals (first | exact hG5324 _ (by kernel_rfl) | refine hR5324 _ _ _ ?_ | omega | (unfold maxLen; omega) | (simp [h1, h1_, h3, h3_, h4, h4_, h5, h6, h6_, h7, h7_, h12_, h12__, h12q, h13_, h13__, h14, h14_, h15, h16, h17, h17_, h16_, h19, h19_, h20, h21, h20_, h21_, h23, h23_]; done) | (simp [h1, h1_, h3, h3_, h4, h4_, h5, h6, h6_, h7, h7_, h12_, h12__, h12q, h13_, h13__, h14, h14_, h15, h16, h17, h17_, h16_, h19, h19_, h20, h21, h20_, h21_, h23, h23_]; omega))
                    refine AW.wk [(4, AV.bool false)] [] 2 (by simp [h1, h1_, h3, h3_, h4, h4_, h5, h6, h6_, h7, h7_, h12_, h12__, h12q, h13_, h13__, h14, h14_, h15, h16, h17, h17_, h16_, h19, h19_, h20, h21, h20_, h21_, h23, h23_]) (by simp [h1, h1_, h3, h3_, h4, h4_, h5, h6, h6_, h7, h7_, h12_, h12__, h12q, h13_, h13__, h14, h14_, h15, h16, h17, h17_, h16_, h19, h19_, h20, h21, h20_, h21_, h23, h23_]) (by simp) ?_
                    simp only [Option.some.injEq] at hF
                    subst hF
                    refine AW.ret (hQ _ _ _ ?_ (matchO_0 ?_)).1
                    · simp [Try.f9, h1, h1_, h3, h3_, h4, h4_, h5, h6, h6_, h7, h7_, h12_, h12__, h12q, h13_, h13__, h14, h14_, h15, h16, h17, h17_, h16_, h19, h19_, h20, h21, h20_, h21_, h23, h23_]
                    · simp [h1, h1_, h3, h3_, h4, h4_, h5, h6, h6_, h7, h7_, h12_, h12__, h12q, h13_, h13__, h14, h14_, h15, h16, h17, h17_, h16_, h19, h19_, h20, h21, h20_, h21_, h23, h23_]
                  · replace hF := ite_f h23 hF
                    have h23_ := h23
                    try simp at h23_
                    refine AW.condF (by decide) (by first | (simp [h1, h1_, h3, h3_, h4, h4_, h5, h6, h6_, h7, h7_, h12_, h12__, h12q, h13_, h13__, h14, h14_, h15, h16, h17, h17_, h16_, h19, h19_, h20, h21, h20_, h21_, h23, h23_]; done) | (simp [h1, h1_, h3, h3_, h4, h4_, h5, h6, h6_, h7, h7_, h12_, h12__, h12q, h13_, h13__, h14, h14_, h15, h16, h17, h17_, h16_, h19, h19_, h20, h21, h20_, h21_, h23, h23_]; omega)) ?_
                    refine AW.skip ?_
                    refine hK5321 _ _ _ ?_
                    refine AW.region mixed [] [none, none, none, none, none, none, none, none] (by kernel_rfl) fun G5325 R5325 hG5325 hR5325 => ?_
                    try simp [h1, h1_, h3, h3_, h4, h4_, h5, h6, h6_, h7, h7_, h12_, h12__, h12q, h13_, h13__, h14, h14_, h15, h16, h17, h17_, h16_, h19, h19_, h20, h21, h20_, h21_, h23, h23_]
                    repeat' apply And.intro
                    any_goals (first | exact hG5325 _ (by kernel_rfl) | refine hR5325 _ _ _ ?_ | omega | (unfold maxLen; omega) | (simp [h1, h1_, h3, h3_, h4, h4_, h5, h6, h6_, h7, h7_, h12_, h12__, h12q, h13_, h13__, h14, h14_, h15, h16, h17, h17_, h16_, h19, h19_, h20, h21, h20_, h21_, h23, h23_]; done) | (simp [h1, h1_, h3, h3_, h4, h4_, h5, h6, h6_, h7, h7_, h12_, h12__, h12q, h13_, h13__, h14, h14_, h15, h16, h17, h17_, h16_, h19, h19_, h20, h21, h20_, h21_, h23, h23_]; omega))
                    refine hK5317 _ _ _ ?_
                    refine AW.wk [(5, AV.int .i64 (IntKind.wrap .i64 (1 + Int.tmod (IntKind.wrap .i64 v0) 5))), (6, AV.int .i64 (IntKind.wrap .i64 (1 + Int.tmod (IntKind.wrap .i64 v1) 3))), (7, AV.slc 0 0 1 v4.length false), (9, AV.int .i64 v5), (10, AV.int .i64 v6), (12, AV.slc 1 0 1 v9.length true), (13, AV.int .i64 v8), (17, AV.lst false false (List.map (AV.int .i64) v13)), (19, AV.int .i64 (IntKind.wrap .i64 (IntKind.wrap .i64 (v15 * 16) + v17))), (20, AV.int .i64 v16)] [(0, .grow (List.map (AV.int .i64) v4)), (1, .cells (List.map (AV.int .i64) v9))] 2 (by simp [h1, h1_, h3, h3_, h4, h4_, h5, h6, h6_, h7, h7_, h12_, h12__, h12q, h13_, h13__, h14, h14_, h15, h16, h17, h17_, h16_, h19, h19_, h20, h21, h20_, h21_, h23, h23_]) (by simp [h1, h1_, h3, h3_, h4, h4_, h5, h6, h6_, h7, h7_, h12_, h12__, h12q, h13_, h13__, h14, h14_, h15, h16, h17, h17_, h16_, h19, h19_, h20, h21, h20_, h21_, h23, h23_]) (by simp) ?_
                    refine AW.region mixed [] [none, none, none] (by kernel_rfl) fun G5326 R5326 hG5326 hR5326 => ?_
                    try simp [h1, h1_, h3, h3_, h4, h4_, h5, h6, h6_, h7, h7_, h12_, h12__, h12q, h13_, h13__, h14, h14_, h15, h16, h17, h17_, h16_, h19, h19_, h20, h21, h20_, h21_, h23, h23_]
                    repeat' apply And.intro
                    any_goals (first | exact hG5326 _ (by kernel_rfl) | refine hR5326 _ _ _ ?_ | omega | (unfold maxLen; omega) | (simp [h1, h1_, h3, h3_, h4, h4_, h5, h6, h6_, h7, h7_, h12_, h12__, h12q, h13_, h13__, h14, h14_, h15, h16, h17, h17_, h16_, h19, h19_, h20, h21, h20_, h21_, h23, h23_]; done) | (simp [h1, h1_, h3, h3_, h4, h4_, h5, h6, h6_, h7, h7_, h12_, h12__, h12q, h13_, h13__, h14, h14_, h15, h16, h17, h17_, h16_, h19, h19_, h20, h21, h20_, h21_, h23, h23_]; omega))
                    refine hK5305 _ _ _ ?_
                    refine Can.weak [(5, AV.int .i64 (IntKind.wrap .i64 (1 + Int.tmod (IntKind.wrap .i64 v0) 5))), (6, AV.int .i64 (IntKind.wrap .i64 (1 + Int.tmod (IntKind.wrap .i64 v1) 3))), (7, AV.slc 0 0 1 v4.length false), (9, AV.int .i64 v5), (10, AV.int .i64 v6), (12, AV.slc 1 0 1 v9.length true), (13, AV.int .i64 v8), (17, AV.lst false false (List.map (AV.int .i64) v13)), (19, AV.int .i64 (IntKind.wrap .i64 (IntKind.wrap .i64 (v15 * 16) + v17))), (20, AV.int .i64 (IntKind.wrap .i64 (v16 + 1)))] [(0, .grow (List.map (AV.int .i64) v4)), (1, .cells (List.map (AV.int .i64) v9))] 2 (by simp [h1, h1_, h3, h3_, h4, h4_, h5, h6, h6_, h7, h7_, h12_, h12__, h12q, h13_, h13__, h14, h14_, h15, h16, h17, h17_, h16_, h19, h19_, h20, h21, h20_, h21_, h23, h23_]) (by simp [h1, h1_, h3, h3_, h4, h4_, h5, h6, h6_, h7, h7_, h12_, h12__, h12q, h13_, h13__, h14, h14_, h15, h16, h17, h17_, h16_, h19, h19_, h20, h21, h20_, h21_, h23, h23_]) (by simp) ?_
                    exact Can.next (k' := n5) ((IntKind.wrap .i64 (IntKind.wrap .i64 (v15 * 16) + v17), IntKind.wrap .i64 (v16 + 1))) (by omega) hF (by simp [h1, h1_, h3, h3_, h4, h4_, h5, h6, h6_, h7, h7_, h12_, h12__, h12q, h13_, h13__, h14, h14_, h15, h16, h17, h17_, h16_, h19, h19_, h20, h21, h20_, h21_, h23, h23_]) (by simp [h1, h1_, h3, h3_, h4, h4_, h5, h6, h6_, h7, h7_, h12_, h12__, h12q, h13_, h13__, h14, h14_, h15, h16, h17, h17_, h16_, h19, h19_, h20, h21, h20_, h21_, h23, h23_]) (by simp)
              · replace hF := ite_f h14 hF
                have h14_ := h14
                try simp at h14_
                refine AW.condF (by decide) (by first | (simp [h1, h1_, h3, h3_, h4, h4_, h5, h6, h6_, h7, h7_, h12_, h12__, h12q, h13_, h13__, h14, h14_]; done) | (simp [h1, h1_, h3, h3_, h4, h4_, h5, h6, h6_, h7, h7_, h12_, h12__, h12q, h13_, h13__, h14, h14_]; omega)) ?_
                refine AW.exit ?_
                try simp
                refine hK5261 _ _ _ ?_
                refine AW.seq fun K5330 hK5330 => ?_
                refine AW.seqR mixed [] [none, none, none, some (125, false), some (125, false), some (125, false), some (125, false), none] (by kernel_rfl) fun G5331 R5331 hG5331 hR5331 => ?_
                by_cases h24 : v15 < 0
                · replace hF := ite_t h24 hF
                  have h24_ := h24
                  try simp at h24_
                  try simp [h1, h1_, h3, h3_, h4, h4_, h5, h6, h6_, h7, h7_, h12_, h12__, h12q, h13_, h13__, h14, h14_, h24, h24_]
                  repeat' apply And.intro
                  any_goals (first | exact hG5331 _ (by kernel_rfl) | refine hR5331 _ _ _ ?_ | omega | (unfold maxLen; omega) | (simp [h1, h1_, h3, h3_, h4, h4_, h5, h6, h6_, h7, h7_, h12_, h12__, h12q, h13_, h13__, h14, h14_, h24, h24_]; done) | (simp [h1, h1_, h3, h3_, h4, h4_, h5, h6, h6_, h7, h7_, h12_, h12__, h12q, h13_, h13__, h14, h14_, h24, h24_]; omega))
                  refine AW.wk [(5, AV.int .i64 (IntKind.wrap .i64 (1 + Int.tmod (IntKind.wrap .i64 v0) 5))), (6, AV.int .i64 (IntKind.wrap .i64 (1 + Int.tmod (IntKind.wrap .i64 v1) 3))), (7, AV.slc 0 0 1 v4.length false), (9, AV.int .i64 v5), (10, AV.int .i64 v6), (12, AV.slc 1 0 1 v9.length true), (13, AV.int .i64 v8), (19, AV.int .i64 v15), (130, AV.bool true)] [(0, .grow (List.map (AV.int .i64) v4)), (1, .cells (List.map (AV.int .i64) v9))] 2 (by simp [h1, h1_, h3, h3_, h4, h4_, h5, h6, h6_, h7, h7_, h12_, h12__, h12q, h13_, h13__, h14, h14_, h24, h24_]) (by simp [h1, h1_, h3, h3_, h4, h4_, h5, h6, h6_, h7, h7_, h12_, h12__, h12q, h13_, h13__, h14, h14_, h24, h24_]) (by simp) ?_
                  refine AW.condT (by decide) (by simp [h1, h1_, h3, h3_, h4, h4_, h5, h6, h6_, h7, h7_, h12_, h12__, h12q, h13_, h13__, h14, h14_, h24, h24_]) ?_
                  refine AW.seqR mixed [] [none] (by kernel_rfl) fun G5332 R5332 hG5332 hR5332 => ?_
                  try simp [h1, h1_, h3, h3_, h4, h4_, h5, h6, h6_, h7, h7_, h12_, h12__, h12q, h13_, h13__, h14, h14_, h24, h24_]
                  repeat' apply And.intro
                  any_goals (first | exact hG5332 _ (by kernel_rfl) | refine hR5332 _ _ _ ?_ | omega | (unfold maxLen; omega) | (simp [h1, h1_, h3, h3_, h4, h4_, h5, h6, h6_, h7, h7_, h12_, h12__, h12q, h13_, h13__, h14, h14_, h24, h24_]; done) | (simp [h1, h1_, h3, h3_, h4, h4_, h5, h6, h6_, h7, h7_, h12_, h12__, h12q, h13_, h13__, h14, h14_, h24, h24_]; omega))
                  refine AW.wk [(4, AV.bool false)] [] 2 (by simp [h1, h1_, h3, h3_, h4, h4_, h5, h6, h6_, h7, h7_, h12_, h12__, h12q, h13_, h13__, h14, h14_, h24, h24_]) (by simp [h1, h1_, h3, h3_, h4, h4_, h5, h6, h6_, h7, h7_, h12_, h12__, h12q, h13_, h13__, h14, h14_, h24, h24_]) (by simp) ?_
                  simp only [Option.some.injEq] at hF
                  subst hF
                  refine AW.ret (hQ _ _ _ ?_ (matchO_0 ?_)).1
                  · simp [Try.f9, h1, h1_, h3, h3_, h4, h4_, h5, h6, h6_, h7, h7_, h12_, h12__, h12q, h13_, h13__, h14, h14_, h24, h24_]
                  · simp [h1, h1_, h3, h3_, h4, h4_, h5, h6, h6_, h7, h7_, h12_, h12__, h12q, h13_, h13__, h14, h14_, h24, h24_]
                · replace hF := ite_f h24 hF
                  have h24_ := h24
                  try simp at h24_
                  try simp [h1, h1_, h3, h3_, h4, h4_, h5, h6, h6_, h7, h7_, h12_, h12__, h12q, h13_, h13__, h14, h14_, h24, h24_]
                  repeat' apply And.intro
                  any_goals (first | exact hG5331 _ (by kernel_rfl) | refine hR5331 _ _ _ ?_ | omega | (unfold maxLen; omega) | (simp [h1, h1_, h3, h3_, h4, h4_, h5, h6, h6_, h7, h7_, h12_, h12__, h12q, h13_, h13__, h14, h14_, h24, h24_]; done) | (simp [h1, h1_, h3, h3_, h4, h4_, h5, h6, h6_, h7, h7_, h12_, h12__, h12q, h13_, h13__, h14, h14_, h24, h24_]; omega))
                  refine AW.wk [(5, AV.int .i64 (IntKind.wrap .i64 (1 + Int.tmod (IntKind.wrap .i64 v0) 5))), (6, AV.int .i64 (IntKind.wrap .i64 (1 + Int.tmod (IntKind.wrap .i64 v1) 3))), (7, AV.slc 0 0 1 v4.length false), (9, AV.int .i64 v5), (10, AV.int .i64 v6), (12, AV.slc 1 0 1 v9.length true), (13, AV.int .i64 v8), (19, AV.int .i64 v15), (130, AV.bool (decide ((v9.length : Int) ≤ v15)))] [(0, .grow (List.map (AV.int .i64) v4)), (1, .cells (List.map (AV.int .i64) v9))] 2 (by simp [h1, h1_, h3, h3_, h4, h4_, h5, h6, h6_, h7, h7_, h12_, h12__, h12q, h13_, h13__, h14, h14_, h24, h24_]) (by simp [h1, h1_, h3, h3_, h4, h4_, h5, h6, h6_, h7, h7_, h12_, h12__, h12q, h13_, h13__, h14, h14_, h24, h24_]) (by simp) ?_
                  by_cases h25 : (v9.length : Int) ≤ v15
                  · replace hF := ite_t h25 hF
                    have h25_ := h25
                    try simp at h25_
                    refine AW.condT (by decide) (by first | (simp [h1, h1_, h3, h3_, h4, h4_, h5, h6, h6_, h7, h7_, h12_, h12__, h12q, h13_, h13__, h14, h14_, h24, h24_, h25, h25_]; done) | (simp [h1, h1_, h3, h3_, h4, h4_, h5, h6, h6_, h7, h7_, h12_, h12__, h12q, h13_, h13__, h14, h14_, h24, h24_, h25, h25_]; omega)) ?_
                    refine AW.seqR mixed [] [none] (by kernel_rfl) fun G5333 R5333 hG5333 hR5333 => ?_
                    try simp [h1, h1_, h3, h3_, h4, h4_, h5, h6, h6_, h7, h7_, h12_, h12__, h12q, h13_, h13__, h14, h14_, h24, h24_, h25, h25_]
                    repeat' apply And.intro
                    any_goals (first | exact hG5333 _ (by kernel_rfl) | refine hR5333 _ _ _ ?_ | omega | (unfold maxLen; omega) | (simp [h1, h1_, h3, h3_, h4, h4_, h5, h6, h6_, h7, h7_, h12_, h12__, h12q, h13_, h13__, h14, h14_, h24, h24_, h25, h25_]; done) | (simp [h1, h1_, h3, h3_, h4, h4_, h5, h6, h6_, h7, h7_, h12_, h12__, h12q, h13_, h13__, h14, h14_, h24, h24_, h25, h25_]; omega))
                    refine AW.wk [(4, AV.bool false)] [] 2 (by simp [h1, h1_, h3, h3_, h4, h4_, h5, h6, h6_, h7, h7_, h12_, h12__, h12q, h13_, h13__, h14, h14_, h24, h24_, h25, h25_]) (by simp [h1, h1_, h3, h3_, h4, h4_, h5, h6, h6_, h7, h7_, h12_, h12__, h12q, h13_, h13__, h14, h14_, h24, h24_, h25, h25_]) (by simp) ?_
                    simp only [Option.some.injEq] at hF
                    subst hF
                    refine AW.ret (hQ _ _ _ ?_ (matchO_0 ?_)).1
                    · simp [Try.f9, h1, h1_, h3, h3_, h4, h4_, h5, h6, h6_, h7, h7_, h12_, h12__, h12q, h13_, h13__, h14, h14_, h24, h24_, h25, h25_]
                    · simp [h1, h1_, h3, h3_, h4, h4_, h5, h6, h6_, h7, h7_, h12_, h12__, h12q, h13_, h13__, h14, h14_, h24, h24_, h25, h25_]
                  · replace hF := ite_f h25 hF
                    have h25_ := h25
                    try simp at h25_
                    refine AW.condF (by decide) (by first | (simp [h1, h1_, h3, h3_, h4, h4_, h5, h6, h6_, h7, h7_, h12_, h12__, h12q, h13_, h13__, h14, h14_, h24, h24_, h25, h25_]; done) | (simp [h1, h1_, h3, h3_, h4, h4_, h5, h6, h6_, h7, h7_, h12_, h12__, h12q, h13_, h13__, h14, h14_, h24, h24_, h25, h25_]; omega)) ?_
                    refine AW.skip ?_
                    refine hK5330 _ _ _ ?_
                    refine AW.seqR mixed [] [none, none, none, none, none, none, none] (by kernel_rfl) fun G5334 R5334 hG5334 hR5334 => ?_
                    obtain ⟨⟨h26, h27⟩, hF⟩ := chk_elim hF
                    have h27_ := ne_of_lt h27
                    obtain ⟨v20, h28, h29, h30, hF⟩ := idx_elim hF
                    have h30_ := get_of h30
                    try simp at h30_
                    have h29_ := h29
                    try simp at h29_
                    obtain ⟨⟨h31, h32⟩, hF⟩ := chk_elim hF
                    have h32_ := ne_of_lt h32
                    try simp [h1, h1_, h3, h3_, h4, h4_, h5, h6, h6_, h7, h7_, h12_, h12__, h12q, h13_, h13__, h14, h14_, h24, h24_, h25, h25_, h26, h27, h27_, h28, h29, h30, h30_, h29_, h31, h32, h32_]
                    repeat' apply And.intro
                    any_goals (first | exact hG5334 _ (by kernel_rfl) | refine hR5334 _ _ _ ?_ | omega | (unfold maxLen; omega) | (simp [h1, h1_, h3, h3_, h4, h4_, h5, h6, h6_, h7, h7_, h12_, h12__, h12q, h13_, h13__, h14, h14_, h24, h24_, h25, h25_, h26, h27, h27_, h28, h29, h30, h30_, h29_, h31, h32, h32_]; done) | (simp [h1, h1_, h3, h3_, h4, h4_, h5, h6, h6_, h7, h7_, h12_, h12__, h12q, h13_, h13__, h14, h14_, h24, h24_, h25, h25_, h26, h27, h27_, h28, h29, h30, h30_, h29_, h31, h32, h32_]; omega))
                    refine AW.wk [(5, AV.int .i64 (IntKind.wrap .i64 (1 + Int.tmod (IntKind.wrap .i64 v0) 5))), (6, AV.int .i64 (IntKind.wrap .i64 (1 + Int.tmod (IntKind.wrap .i64 v1) 3))), (7, AV.slc 0 0 1 v4.length false), (9, AV.int .i64 v5), (10, AV.int .i64 v6), (12, AV.slc 1 0 1 ((v9.set (v15).toNat (IntKind.wrap .i64 (v20 + 1))).length) true), (13, AV.int .i64 v8), (19, AV.int .i64 v15)] [(0, .grow (List.map (AV.int .i64) v4)), (1, .cells (List.map (AV.int .i64) (v9.set (v15).toNat (IntKind.wrap .i64 (v20 + 1)))))] 2 (by simp [h1, h1_, h3, h3_, h4, h4_, h5, h6, h6_, h7, h7_, h12_, h12__, h12q, h13_, h13__, h14, h14_, h24, h24_, h25, h25_, h26, h27, h27_, h28, h29, h30, h30_, h29_, h31, h32, h32_]) (by simp [h1, h1_, h3, h3_, h4, h4_, h5, h6, h6_, h7, h7_, h12_, h12__, h12q, h13_, h13__, h14, h14_, h24, h24_, h25, h25_, h26, h27, h27_, h28, h29, h30, h30_, h29_, h31, h32, h32_]) (by simp) ?_
                    refine AW.seqR mixed [] [none, none, none, none, none] (by kernel_rfl) fun G5335 R5335 hG5335 hR5335 => ?_
                    obtain ⟨⟨h33, h34⟩, hF⟩ := chk_elim hF
                    have h34_ := ne_of_lt h34
                    obtain ⟨v21, h35, h36, h37, hF⟩ := idx_elim hF
                    have h37_ := get_of h37
                    try simp at h37_
                    have h36_ := h36
                    try simp at h36_
                    try simp [h1, h1_, h3, h3_, h4, h4_, h5, h6, h6_, h7, h7_, h12_, h12__, h12q, h13_, h13__, h14, h14_, h24, h24_, h25, h25_, h26, h27, h27_, h28, h29, h30, h30_, h29_, h31, h32, h32_, h33, h34, h34_, h35, h36, h37, h37_, h36_]
                    repeat' apply And.intro
                    any_goals (first | exact hG5335 _ (by kernel_rfl) | refine hR5335 _ _ _ ?_ | omega | (unfold maxLen; omega) | (simp [h1, h1_, h3, h3_, h4, h4_, h5, h6, h6_, h7, h7_, h12_, h12__, h12q, h13_, h13__, h14, h14_, h24, h24_, h25, h25_, h26, h27, h27_, h28, h29, h30, h30_, h29_, h31, h32, h32_, h33, h34, h34_, h35, h36, h37, h37_, h36_]; done) | (simp [h1, h1_, h3, h3_, h4, h4_, h5, h6, h6_, h7, h7_, h12_, h12__, h12q, h13_, h13__, h14, h14_, h24, h24_, h25, h25_, h26, h27, h27_, h28, h29, h30, h30_, h29_, h31, h32, h32_, h33, h34, h34_, h35, h36, h37, h37_, h36_]; omega))
                    refine AW.wk [(5, AV.int .i64 (IntKind.wrap .i64 (1 + Int.tmod (IntKind.wrap .i64 v0) 5))), (6, AV.int .i64 (IntKind.wrap .i64 (1 + Int.tmod (IntKind.wrap .i64 v1) 3))), (7, AV.slc 0 0 1 v4.length false), (9, AV.int .i64 v5), (10, AV.int .i64 v6), (12, AV.slc 1 0 1 ((v9.set (v15).toNat (IntKind.wrap .i64 (v20 + 1))).length) true), (13, AV.int .i64 v8), (141, AV.bool (decide (1 < v21)))] [(0, .grow (List.map (AV.int .i64) v4)), (1, .cells (List.map (AV.int .i64) (v9.set (v15).toNat (IntKind.wrap .i64 (v20 + 1)))))] 2 (by simp [h1, h1_, h3, h3_, h4, h4_, h5, h6, h6_, h7, h7_, h12_, h12__, h12q, h13_, h13__, h14, h14_, h24, h24_, h25, h25_, h26, h27, h27_, h28, h29, h30, h30_, h29_, h31, h32, h32_, h33, h34, h34_, h35, h36, h37, h37_, h36_]) (by simp [h1, h1_, h3, h3_, h4, h4_, h5, h6, h6_, h7, h7_, h12_, h12__, h12q, h13_, h13__, h14, h14_, h24, h24_, h25, h25_, h26, h27, h27_, h28, h29, h30, h30_, h29_, h31, h32, h32_, h33, h34, h34_, h35, h36, h37, h37_, h36_]) (by simp) ?_
                    by_cases h38 : 1 < v21
                    · replace hF := ite_t h38 hF
                      have h38_ := h38
                      try simp at h38_
                      refine AW.condT (by decide) (by first | (simp [h1, h1_, h3, h3_, h4, h4_, h5, h6, h6_, h7, h7_, h12_, h12__, h12q, h13_, h13__, h14, h14_, h24, h24_, h25, h25_, h26, h27, h27_, h28, h29, h30, h30_, h29_, h31, h32, h32_, h33, h34, h34_, h35, h36, h37, h37_, h36_, h38, h38_]; done) | (simp [h1, h1_, h3, h3_, h4, h4_, h5, h6, h6_, h7, h7_, h12_, h12__, h12q, h13_, h13__, h14, h14_, h24, h24_, h25, h25_, h26, h27, h27_, h28, h29, h30, h30_, h29_, h31, h32, h32_, h33, h34, h34_, h35, h36, h37, h37_, h36_, h38, h38_]; omega)) ?_
                      refine AW.seqR mixed [] [none] (by kernel_rfl) fun G5336 R5336 hG5336 hR5336 => ?_
                      try simp [h1, h1_, h3, h3_, h4, h4_, h5, h6, h6_, h7, h7_, h12_, h12__, h12q, h13_, h13__, h14, h14_, h24, h24_, h25, h25_, h26, h27, h27_, h28, h29, h30, h30_, h29_, h31, h32, h32_, h33, h34, h34_, h35, h36, h37, h37_, h36_, h38, h38_]
                      repeat' apply And.intro
                      any_goals (first | exact hG5336 _ (by kernel_rfl) | refine hR5336 _ _ _ ?_ | omega | (unfold maxLen; omega) | (simp [h1, h1_, h3, h3_, h4, h4_, h5, h6, h6_, h7, h7_, h12_, h12__, h12q, h13_, h13__, h14, h14_, h24, h24_, h25, h25_, h26, h27, h27_, h28, h29, h30, h30_, h29_, h31, h32, h32_, h33, h34, h34_, h35, h36, h37, h37_, h36_, h38, h38_]; done) | (simp [h1, h1_, h3, h3_, h4, h4_, h5, h6, h6_, h7, h7_, h12_, h12__, h12q, h13_, h13__, h14, h14_, h24, h24_, h25, h25_, h26, h27, h27_, h28, h29, h30, h30_, h29_, h31, h32, h32_, h33, h34, h34_, h35, h36, h37, h37_, h36_, h38, h38_]; omega))
                      refine AW.wk [(4, AV.bool false)] [] 2 (by simp [h1, h1_, h3, h3_, h4, h4_, h5, h6, h6_, h7, h7_, h12_, h12__, h12q, h13_, h13__, h14, h14_, h24, h24_, h25, h25_, h26, h27, h27_, h28, h29, h30, h30_, h29_, h31, h32, h32_, h33, h34, h34_, h35, h36, h37, h37_, h36_, h38, h38_]) (by simp [h1, h1_, h3, h3_, h4, h4_, h5, h6, h6_, h7, h7_, h12_, h12__, h12q, h13_, h13__, h14, h14_, h24, h24_, h25, h25_, h26, h27, h27_, h28, h29, h30, h30_, h29_, h31, h32, h32_, h33, h34, h34_, h35, h36, h37, h37_, h36_, h38, h38_]) (by simp) ?_
                      simp only [Option.some.injEq] at hF
                      subst hF
                      refine AW.ret (hQ _ _ _ ?_ (matchO_0 ?_)).1
                      · simp [Try.f9, h1, h1_, h3, h3_, h4, h4_, h5, h6, h6_, h7, h7_, h12_, h12__, h12q, h13_, h13__, h14, h14_, h24, h24_, h25, h25_, h26, h27, h27_, h28, h29, h30, h30_, h29_, h31, h32, h32_, h33, h34, h34_, h35, h36, h37, h37_, h36_, h38, h38_]
                      · simp [h1, h1_, h3, h3_, h4, h4_, h5, h6, h6_, h7, h7_, h12_, h12__, h12q, h13_, h13__, h14, h14_, h24, h24_, h25, h25_, h26, h27, h27_, h28, h29, h30, h30_, h29_, h31, h32, h32_, h33, h34, h34_, h35, h36, h37, h37_, h36_, h38, h38_]
                    · replace hF := ite_f h38 hF
                      have h38_ := h38
                      try simp at h38_
                      refine AW.condF (by decide) (by first | (simp [h1, h1_, h3, h3_, h4, h4_, h5, h6, h6_, h7, h7_, h12_, h12__, h12q, h13_, h13__, h14, h14_, h24, h24_, h25, h25_, h26, h27, h27_, h28, h29, h30, h30_, h29_, h31, h32, h32_, h33, h34, h34_, h35, h36, h37, h37_, h36_, h38, h38_]; done) | (simp [h1, h1_, h3, h3_, h4, h4_, h5, h6, h6_, h7, h7_, h12_, h12__, h12q, h13_, h13__, h14, h14_, h24, h24_, h25, h25_, h26, h27, h27_, h28, h29, h30, h30_, h29_, h31, h32, h32_, h33, h34, h34_, h35, h36, h37, h37_, h36_, h38, h38_]; omega)) ?_
                      refine AW.skip ?_
                      refine hK5125 _ _ _ ?_
                      refine AW.region mixed [] [none, none, none] (by kernel_rfl) fun G5337 R5337 hG5337 hR5337 => ?_
                      try simp [h1, h1_, h3, h3_, h4, h4_, h5, h6, h6_, h7, h7_, h12_, h12__, h12q, h13_, h13__, h14, h14_, h24, h24_, h25, h25_, h26, h27, h27_, h28, h29, h30, h30_, h29_, h31, h32, h32_, h33, h34, h34_, h35, h36, h37, h37_, h36_, h38, h38_]
                      repeat' apply And.intro
                      any_goals (first | exact hG5337 _ (by kernel_rfl) | refine hR5337 _ _ _ ?_ | omega | (unfold maxLen; omega) | (simp [h1, h1_, h3, h3_, h4, h4_, h5, h6, h6_, h7, h7_, h12_, h12__, h12q, h13_, h13__, h14, h14_, h24, h24_, h25, h25_, h26, h27, h27_, h28, h29, h30, h30_, h29_, h31, h32, h32_, h33, h34, h34_, h35, h36, h37, h37_, h36_, h38, h38_]; done) | (simp [h1, h1_, h3, h3_, h4, h4_, h5, h6, h6_, h7, h7_, h12_, h12__, h12q, h13_, h13__, h14, h14_, h24, h24_, h25, h25_, h26, h27, h27_, h28, h29, h30, h30_, h29_, h31, h32, h32_, h33, h34, h34_, h35, h36, h37, h37_, h36_, h38, h38_]; omega))
                      refine hK4910 _ _ _ ?_
                      refine Can.weak [(5, AV.int .i64 (IntKind.wrap .i64 (1 + Int.tmod (IntKind.wrap .i64 v0) 5))), (6, AV.int .i64 (IntKind.wrap .i64 (1 + Int.tmod (IntKind.wrap .i64 v1) 3))), (7, AV.slc 0 0 1 v4.length false), (9, AV.int .i64 v5), (10, AV.int .i64 v6), (12, AV.slc 1 0 1 ((v9.set (v15).toNat (IntKind.wrap .i64 (v20 + 1))).length) true), (13, AV.int .i64 (IntKind.wrap .i64 (v8 + 1)))] [(0, .grow (List.map (AV.int .i64) v4)), (1, .cells (List.map (AV.int .i64) (v9.set (v15).toNat (IntKind.wrap .i64 (v20 + 1)))))] 2 (by simp [h1, h1_, h3, h3_, h4, h4_, h5, h6, h6_, h7, h7_, h12_, h12__, h12q, h13_, h13__, h14, h14_, h24, h24_, h25, h25_, h26, h27, h27_, h28, h29, h30, h30_, h29_, h31, h32, h32_, h33, h34, h34_, h35, h36, h37, h37_, h36_, h38, h38_]) (by simp [h1, h1_, h3, h3_, h4, h4_, h5, h6, h6_, h7, h7_, h12_, h12__, h12q, h13_, h13__, h14, h14_, h24, h24_, h25, h25_, h26, h27, h27_, h28, h29, h30, h30_, h29_, h31, h32, h32_, h33, h34, h34_, h35, h36, h37, h37_, h36_, h38, h38_]) (by simp) ?_
                      exact Can.next (k' := n3) ((IntKind.wrap .i64 (v8 + 1), v9.set (v15).toNat (IntKind.wrap .i64 (v20 + 1)))) (by omega) hF (by simp [h1, h1_, h3, h3_, h4, h4_, h5, h6, h6_, h7, h7_, h12_, h12__, h12q, h13_, h13__, h14, h14_, h24, h24_, h25, h25_, h26, h27, h27_, h28, h29, h30, h30_, h29_, h31, h32, h32_, h33, h34, h34_, h35, h36, h37, h37_, h36_, h38, h38_]) (by simp [h1, h1_, h3, h3_, h4, h4_, h5, h6, h6_, h7, h7_, h12_, h12__, h12q, h13_, h13__, h14, h14_, h24, h24_, h25, h25_, h26, h27, h27_, h28, h29, h30, h30_, h29_, h31, h32, h32_, h33, h34, h34_, h35, h36, h37, h37_, h36_, h38, h38_]) (by simp)
      · replace hF := ite_f h6 hF
        have h6_ := h6
        try simp at h6_
        refine AW.condF (by decide) (by first | (simp [h1, h1_, h3, h3_, h4, h4_, h5, h6, h6_]; done) | (simp [h1, h1_, h3, h3_, h4, h4_, h5, h6, h6_]; omega)) ?_
        refine AW.exit ?_
        try simp
        refine hK4054 _ _ _ ?_
        refine AW.seqR mixed [] [none, none] (by kernel_rfl) fun G5338 R5338 hG5338 hR5338 => ?_
        try simp [h1, h1_, h3, h3_, h4, h4_, h5, h6, h6_]
        repeat' apply And.intro
        try any_goals (first | omega | (unfold maxLen; omega) | (simp [h1, h1_, h3, h3_, h4, h4_, h5, h6, h6_]; done))
        obtain ⟨v22, h39, hF⟩ := bnd1_elim hF
        refine aCall_l (w_law26_awake k _ h39) (by simp) [] [] [] rfl .nil (by simp [h1, h1_, h3, h3_, h4, h4_, h5, h6, h6_]) (by decide) (by simp) (by simp) (.inl rfl) (by simp) (by simp) ?_
        try simp [h1, h1_, h3, h3_, h4, h4_, h5, h6, h6_]
        repeat' apply And.intro
        any_goals (first | exact hG5338 _ (by kernel_rfl) | refine hR5338 _ _ _ ?_ | omega | (unfold maxLen; omega) | (simp [h1, h1_, h3, h3_, h4, h4_, h5, h6, h6_]; done) | (simp [h1, h1_, h3, h3_, h4, h4_, h5, h6, h6_]; omega))
        refine AW.wk [(4, AV.bool v22)] [] 2 (by simp [h1, h1_, h3, h3_, h4, h4_, h5, h6, h6_]) (by simp [h1, h1_, h3, h3_, h4, h4_, h5, h6, h6_]) (by simp) ?_
        simp only [Option.some.injEq] at hF
        subst hF
        refine AW.ret (hQ _ _ _ ?_ (matchO_0 ?_)).1
        · simp [Try.f9, h1, h1_, h3, h3_, h4, h4_, h5, h6, h6_]
        · simp [h1, h1_, h3, h3_, h4, h4_, h5, h6, h6_]
end Go.TF
