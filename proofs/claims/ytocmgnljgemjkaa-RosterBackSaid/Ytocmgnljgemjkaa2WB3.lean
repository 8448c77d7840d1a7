/- Walks: the Go text computes the Lean functions (printed by a program of our own). -/
import Derived.Test.Ytocmgnljgemjkaa2Pu
import Derived.Test.Ytocmgnljgemjkaa2AbsT
import Derived.Test.Ytocmgnljgemjkaa2Wa0
import Derived.Test.Ytocmgnljgemjkaa2WB1
import Derived.Test.Ytocmgnljgemjkaa2WB2
set_option linter.unusedVariables false
set_option linter.unusedSimpArgs false
set_option maxRecDepth 100000
namespace Go.TF
open Go Go.Abs Go.Proofs Go.Proofs.Ytocmgnljgemjkaa2T
set_option maxHeartbeats 4000000 in
theorem w_law24_RosterBack (k : Nat) (v0 : Int) (v1 : Int) (v2 : Bool) (hF : law24_RosterBack k v0 v1 = some v2) :
    FCall Try.prog 17 [AV.int .u64 v0, AV.int .u64 v1] [] (AV.bool v2) [] := by
  unfold law24_RosterBack at hF
  refine FCall.enter Try.func17 rfl (by simp) (by decide) (by simp) (by simp) (by simp) (by simp) (by simp) ?_
  intro c0 w0 Q h0 hQ
  refine AW.wk [(0, AV.int .u64 v0), (1, AV.int .u64 v1)] [] 0 (by simp) (by simp) (by simp) ?_
  refine AW.seqR mixed [] [none] (by kernel_rfl) fun G227 R227 hG227 hR227 => ?_
  try simp
  repeat' apply And.intro
  any_goals (first | exact hG227 _ (by kernel_rfl) | refine hR227 _ _ _ ?_ | omega | (unfold maxLen; omega) | (simp; done) | (simp; omega))
  refine AW.wk [(0, AV.int .u64 v0), (1, AV.int .u64 v1)] [] 0 (by simp) (by simp) (by simp) ?_
  refine AW.seqR mixed [] [none, none] (by kernel_rfl) fun G228 R228 hG228 hR228 => ?_
  try simp
  repeat' apply And.intro
  any_goals (first | exact hG228 _ (by kernel_rfl) | refine hR228 _ _ _ ?_ | omega | (unfold maxLen; omega) | (simp; done) | (simp; omega))
  refine AW.wk [(0, AV.int .u64 v0), (1, AV.int .u64 v1), (5, AV.lst true true (List.map (AV.int .i64) ([] : List Int))), (6, AV.lst true true (List.map (AV.int .i64) ([] : List Int)))] [] 0 (by simp) (by simp) (by simp) ?_
  refine AW.seq fun K288 hK288 => ?_
  refine AW.seqR mixed [] [none] (by kernel_rfl) fun G289 R289 hG289 hR289 => ?_
  try simp
  repeat' apply And.intro
  any_goals (first | exact hG289 _ (by kernel_rfl) | refine hR289 _ _ _ ?_ | omega | (unfold maxLen; omega) | (simp; done) | (simp; omega))
  refine AW.wk [(0, AV.int .u64 v0), (1, AV.int .u64 v1), (5, AV.lst true true (List.map (AV.int .i64) ([] : List Int))), (6, AV.lst true true (List.map (AV.int .i64) ([] : List Int))), (7, AV.int .i64 0)] [] 0 (by simp) (by simp) (by simp) ?_
  refine AW.block ?_
  refine AW.own' 5 1 true (by simp) (by decide) ?_
  refine AW.own' 6 1 true (by simp) (by decide) ?_
  refine AW.loopF (α := (Int × (List Int) × (List Int))) (fun n (v3, v4, v5) => law24_RosterBack.L1 k v0 v1 n v3 v4 v5 = some v2) (fun (v3, v4, v5) => [(0, AV.int .u64 v0), (1, AV.int .u64 v1), (5, AV.slc 0 0 1 v4.length false), (6, AV.slc 1 0 1 v5.length false), (7, AV.int .i64 v3)]) (fun (v3, v4, v5) => [(0, .grow (List.map (AV.int .i64) v4)), (1, .grow (List.map (AV.int .i64) v5))]) 2 k ((0, ([] : List Int), ([] : List Int))) hF (by simp) (by simp) (by simp) ?_
  rintro (_|n1) ⟨v3, v4, v5⟩ hF K328 hK328
  · try dsimp only at hF
    rw [law24_RosterBack.L1] at hF; cases hF
  try dsimp only at hF
  rw [law24_RosterBack.L1] at hF
  refine AW.seq fun K330 hK330 => ?_
  refine AW.seqR mixed [] [none, none] (by kernel_rfl) fun G331 R331 hG331 hR331 => ?_
  try simp
  repeat' apply And.intro
  any_goals (first | exact hG331 _ (by kernel_rfl) | refine hR331 _ _ _ ?_ | omega | (unfold maxLen; omega) | (simp; done) | (simp; omega))
  refine AW.wk [(0, AV.int .u64 v0), (1, AV.int .u64 v1), (5, AV.slc 0 0 1 v4.length false), (6, AV.slc 1 0 1 v5.length false), (7, AV.int .i64 v3), (18, AV.bool (decide (v3 < 64)))] [(0, .grow (List.map (AV.int .i64) v4)), (1, .grow (List.map (AV.int .i64) v5))] 2 (by simp) (by simp) (by simp) ?_
  by_cases h1 : v3 < 64
  · replace hF := ite_t h1 hF
    have h1_ := h1
    try simp at h1_
    refine AW.condT (by decide) (by first | (simp [h1, h1_]; done) | (simp [h1, h1_]; omega)) ?_
    refine AW.skip ?_
    refine hK330 _ _ _ ?_
    refine AW.midF (α := ((List Int) × (List Int))) (fun (v6, v7) => law24_RosterBack.J2 k v3 (fun v3_ v4_ v5_ => law24_RosterBack.L1 k v0 v1 n1 v3_ v4_ v5_) v6 v7 = some v2) (fun (v6, v7) => [(0, AV.int .u64 v0), (1, AV.int .u64 v1), (5, AV.slc 0 0 1 v6.length false), (6, AV.slc 1 0 1 v7.length false), (7, AV.int .i64 v3)]) (fun (v6, v7) => [(0, .grow (List.map (AV.int .i64) v6)), (1, .grow (List.map (AV.int .i64) v7))]) 2 (fun K340 hK340 => ?_) ?_
    · refine AW.block ?_
      refine AW.midF (α := (List Int)) (fun v8 => law24_RosterBack.J3 k v1 v3 v5 (fun v3_ v4_ v5_ => law24_RosterBack.L1 k v0 v1 n1 v3_ v4_ v5_) v8 = some v2) (fun v8 => [(0, AV.int .u64 v0), (1, AV.int .u64 v1), (5, AV.slc 0 0 1 v8.length false), (6, AV.slc 1 0 1 v5.length false), (7, AV.int .i64 v3)]) (fun v8 => [(0, .grow (List.map (AV.int .i64) v8)), (1, .grow (List.map (AV.int .i64) v5))]) 2 (fun K345 hK345 => ?_) ?_
      · refine AW.seqR mixed [] [none, none, none, none, none, none] (by kernel_rfl) fun G346 R346 hG346 hR346 => ?_
        obtain ⟨h5, hF⟩ := chk_elim hF
        try simp [h1, h1_, h5]
        repeat' apply And.intro
        any_goals (first | exact hG346 _ (by kernel_rfl) | refine hR346 _ _ _ ?_ | omega | (unfold maxLen; omega) | (simp [h1, h1_, h5]; done) | (simp [h1, h1_, h5]; omega))
        refine AW.wk [(0, AV.int .u64 v0), (1, AV.int .u64 v1), (5, AV.slc 0 0 1 v4.length false), (6, AV.slc 1 0 1 v5.length false), (7, AV.int .i64 v3), (26, AV.bool ((bitsV .and .u64 (Int.fdiv v0 (2 ^ (min ((IntKind.wrap .u64 v3).toNat) 64))) 1) == 1))] [(0, .grow (List.map (AV.int .i64) v4)), (1, .grow (List.map (AV.int .i64) v5))] 2 (by simp [h1, h1_, h5]) (by simp [h1, h1_, h5]) (by simp) ?_
        by_cases h6 : (bitsV .and .u64 (Int.fdiv v0 (2 ^ (min ((IntKind.wrap .u64 v3).toNat) 64))) 1) = 1
        · replace hF := ite_t h6 hF
          have h6q : (bitsV .and .u64 (Int.fdiv v0 (2 ^ (min ((IntKind.wrap .u64 v3).toNat) 64))) 1) = 1 := h6
          have h6_ := eqb_t h6q
          have h6__ := neb_f h6q
          refine AW.condT (by decide) (by first | (simp [h1, h1_, h5, h6_, h6__, h6q]; done) | (simp [h1, h1_, h5, h6_, h6__, h6q]; omega)) ?_
          refine AW.region mixed [] [none, none, none, none, none] (by kernel_rfl) fun G347 R347 hG347 hR347 => ?_
          obtain ⟨h7, hF⟩ := chk_elim hF
          have h7_ := h7
          try simp at h7_
          try simp [h1, h1_, h5, h6_, h6__, h6q, h7]
          repeat' apply And.intro
          any_goals (first | exact hG347 _ (by kernel_rfl) | refine hR347 _ _ _ ?_ | omega | (unfold maxLen; omega) | (simp [h1, h1_, h5, h6_, h6__, h6q, h7]; done) | (simp [h1, h1_, h5, h6_, h6__, h6q, h7]; omega))
          refine hK345 _ _ _ ?_
          refine Can.weak [(0, AV.int .u64 v0), (1, AV.int .u64 v1), (5, AV.slc 2 0 1 ((v4 ++ ([v3] : List Int)).length) false), (6, AV.slc 1 0 1 v5.length false), (7, AV.int .i64 v3)] [(1, .grow (List.map (AV.int .i64) v5)), (2, .grow (List.map (AV.int .i64) (v4 ++ ([v3] : List Int))))] 3 (by simp [h1, h1_, h5, h6_, h6__, h6q, h7]) (by simp [h1, h1_, h5, h6_, h6__, h6q, h7]) (by simp) ?_
          refine Can.ren (m := 0) h0 [(0, 2), (1, 1)] [(0, AV.int .u64 v0), (1, AV.int .u64 v1), (5, AV.slc 0 0 1 ((v4 ++ ([v3] : List Int)).length) false), (6, AV.slc 1 0 1 v5.length false), (7, AV.int .i64 v3)] [(0, .grow (List.map (AV.int .i64) (v4 ++ ([v3] : List Int)))), (1, .grow (List.map (AV.int .i64) v5))] 2 (by decide) (by decide) (by decide) rfl (by simp [h1, h1_, h5, h6_, h6__, h6q, h7]) (by simp [h1, h1_, h5, h6_, h6__, h6q, h7]) ?_
          exact Can.join (v4 ++ ([v3] : List Int)) hF (by simp [h1, h1_, h5, h6_, h6__, h6q, h7]) (by simp [h1, h1_, h5, h6_, h6__, h6q, h7]) (by simp)
        · replace hF := ite_f h6 hF
          have h6_ := eqb_f h6
          have h6__ := neb_t h6
          refine AW.condF (by decide) (by first | (simp [h1, h1_, h5, h6, h6_, h6__]; done) | (simp [h1, h1_, h5, h6, h6_, h6__]; omega)) ?_
          refine AW.skip ?_
          refine hK345 _ _ _ ?_
          exact Can.join (v4) hF (by simp [h1, h1_, h5, h6, h6_, h6__]) (by simp [h1, h1_, h5, h6, h6_, h6__]) (by simp)
      · rintro v8 hF
        try dsimp only at hF
        unfold law24_RosterBack.J3 at hF
        refine AW.seqR mixed [] [none, none, none, none, none, none] (by kernel_rfl) fun G343 R343 hG343 hR343 => ?_
        obtain ⟨h2, hF⟩ := chk_elim hF
        try simp [h1, h1_, h2]
        repeat' apply And.intro
        any_goals (first | exact hG343 _ (by kernel_rfl) | refine hR343 _ _ _ ?_ | omega | (unfold maxLen; omega) | (simp [h1, h1_, h2]; done) | (simp [h1, h1_, h2]; omega))
        refine AW.wk [(0, AV.int .u64 v0), (1, AV.int .u64 v1), (5, AV.slc 0 0 1 v8.length false), (6, AV.slc 1 0 1 v5.length false), (7, AV.int .i64 v3), (36, AV.bool ((bitsV .and .u64 (Int.fdiv v1 (2 ^ (min ((IntKind.wrap .u64 v3).toNat) 64))) 1) == 1))] [(0, .grow (List.map (AV.int .i64) v8)), (1, .grow (List.map (AV.int .i64) v5))] 2 (by simp [h1, h1_, h2]) (by simp [h1, h1_, h2]) (by simp) ?_
        by_cases h3 : (bitsV .and .u64 (Int.fdiv v1 (2 ^ (min ((IntKind.wrap .u64 v3).toNat) 64))) 1) = 1
        · replace hF := ite_t h3 hF
          have h3q : (bitsV .and .u64 (Int.fdiv v1 (2 ^ (min ((IntKind.wrap .u64 v3).toNat) 64))) 1) = 1 := h3
          have h3_ := eqb_t h3q
          have h3__ := neb_f h3q
          refine AW.condT (by decide) (by first | (simp [h1, h1_, h2, h3_, h3__, h3q]; done) | (simp [h1, h1_, h2, h3_, h3__, h3q]; omega)) ?_
          refine AW.region mixed [] [none, none, none, none, none] (by kernel_rfl) fun G344 R344 hG344 hR344 => ?_
          obtain ⟨h4, hF⟩ := chk_elim hF
          have h4_ := h4
          try simp at h4_
          try simp [h1, h1_, h2, h3_, h3__, h3q, h4]
          repeat' apply And.intro
          any_goals (first | exact hG344 _ (by kernel_rfl) | refine hR344 _ _ _ ?_ | omega | (unfold maxLen; omega) | (simp [h1, h1_, h2, h3_, h3__, h3q, h4]; done) | (simp [h1, h1_, h2, h3_, h3__, h3q, h4]; omega))
          refine hK340 _ _ _ ?_
          refine Can.weak [(0, AV.int .u64 v0), (1, AV.int .u64 v1), (5, AV.slc 0 0 1 v8.length false), (6, AV.slc 2 0 1 ((v5 ++ ([v3] : List Int)).length) false), (7, AV.int .i64 v3)] [(0, .grow (List.map (AV.int .i64) v8)), (2, .grow (List.map (AV.int .i64) (v5 ++ ([v3] : List Int))))] 3 (by simp [h1, h1_, h2, h3_, h3__, h3q, h4]) (by simp [h1, h1_, h2, h3_, h3__, h3q, h4]) (by simp) ?_
          refine Can.ren (m := 0) h0 [(0, 0), (1, 2)] [(0, AV.int .u64 v0), (1, AV.int .u64 v1), (5, AV.slc 0 0 1 v8.length false), (6, AV.slc 1 0 1 ((v5 ++ ([v3] : List Int)).length) false), (7, AV.int .i64 v3)] [(0, .grow (List.map (AV.int .i64) v8)), (1, .grow (List.map (AV.int .i64) (v5 ++ ([v3] : List Int))))] 2 (by decide) (by decide) (by decide) rfl (by simp [h1, h1_, h2, h3_, h3__, h3q, h4]) (by simp [h1, h1_, h2, h3_, h3__, h3q, h4]) ?_
          exact Can.join ((v8, v5 ++ ([v3] : List Int))) hF (by simp [h1, h1_, h2, h3_, h3__, h3q, h4]) (by simp [h1, h1_, h2, h3_, h3__, h3q, h4]) (by simp)
        · replace hF := ite_f h3 hF
          have h3_ := eqb_f h3
          have h3__ := neb_t h3
          refine AW.condF (by decide) (by first | (simp [h1, h1_, h2, h3, h3_, h3__]; done) | (simp [h1, h1_, h2, h3, h3_, h3__]; omega)) ?_
          refine AW.skip ?_
          refine hK340 _ _ _ ?_
          exact Can.join ((v8, v5)) hF (by simp [h1, h1_, h2, h3, h3_, h3__]) (by simp [h1, h1_, h2, h3, h3_, h3__]) (by simp)
    · rintro ⟨v6, v7⟩ hF
      try dsimp only at hF
      unfold law24_RosterBack.J2 at hF
      refine AW.region mixed [] [none, none, none] (by kernel_rfl) fun G339 R339 hG339 hR339 => ?_
      try simp [h1, h1_]
      repeat' apply And.intro
      any_goals (first | exact hG339 _ (by kernel_rfl) | refine hR339 _ _ _ ?_ | omega | (unfold maxLen; omega) | (simp [h1, h1_]; done) | (simp [h1, h1_]; omega))
      refine hK328 _ _ _ ?_
      refine Can.weak [(0, AV.int .u64 v0), (1, AV.int .u64 v1), (5, AV.slc 0 0 1 v6.length false), (6, AV.slc 1 0 1 v7.length false), (7, AV.int .i64 (IntKind.wrap .i64 (v3 + 1)))] [(0, .grow (List.map (AV.int .i64) v6)), (1, .grow (List.map (AV.int .i64) v7))] 2 (by simp [h1, h1_]) (by simp [h1, h1_]) (by simp) ?_
      exact Can.next (k' := n1) ((IntKind.wrap .i64 (v3 + 1), v6, v7)) (by omega) hF (by simp [h1, h1_]) (by simp [h1, h1_]) (by simp)
  · replace hF := ite_f h1 hF
    have h1_ := h1
    try simp at h1_
    refine AW.condF (by decide) (by first | (simp [h1, h1_]; done) | (simp [h1, h1_]; omega)) ?_
    refine AW.exit ?_
    try simp
    refine hK288 _ _ _ ?_
    refine AW.wk [(0, AV.int .u64 v0), (1, AV.int .u64 v1), (5, AV.slc 0 0 1 v4.length false), (6, AV.slc 1 0 1 v5.length false)] [(0, .grow (List.map (AV.int .i64) v4)), (1, .grow (List.map (AV.int .i64) v5))] 2 (by simp [h1, h1_]) (by simp [h1, h1_]) (by simp) ?_
    refine AW.frz 0 (o := .grow (List.map (AV.int .i64) v4)) (by simp [h1, h1_]) rfl [(5, AV.lst false false (List.map (AV.int .i64) v4))] [] ⟨(.l (by simp) (by simp) (by simp) (by simp)), trivial⟩ trivial ?_
    refine AW.frz 1 (o := .grow (List.map (AV.int .i64) v5)) (by simp [h1, h1_]) rfl [(6, AV.lst false false (List.map (AV.int .i64) v5))] [] ⟨(.l (by simp) (by simp) (by simp) (by simp)), trivial⟩ trivial ?_
    refine AW.wk [(0, AV.int .u64 v0), (1, AV.int .u64 v1), (5, AV.lst false false (List.map (AV.int .i64) v4)), (6, AV.lst false false (List.map (AV.int .i64) v5))] [] 2 (by simp [h1, h1_]) (by simp [h1, h1_]) (by simp) ?_
    refine AW.seqR mixed [] [none, none, none, none, none, none, none] (by kernel_rfl) fun G348 R348 hG348 hR348 => ?_
    try simp [h1, h1_]
    repeat' apply And.intro
    try any_goals (first | omega | (unfold maxLen; omega) | (simp [h1, h1_]; done))
    obtain ⟨v9, v10, h8, hF⟩ := bnd2_elim hF
    refine aCall_l (w_roster_Encode k _ _ _ h8) (by simp) [] [] [] rfl (.cons (.same (by simp [h1, h1_])) .nil) (by simp [h1, h1_]) (by decide) (by simp) (by simp) (.inl rfl) (by simp) (by simp) ?_
    try simp [h1, h1_]
    repeat' apply And.intro
    any_goals (first | exact hG348 _ (by kernel_rfl) | refine hR348 _ _ _ ?_ | omega | (unfold maxLen; omega) | (simp [h1, h1_]; done) | (simp [h1, h1_]; omega))
    refine AW.wk [(0, AV.int .u64 v0), (1, AV.int .u64 v1), (5, AV.lst false false (List.map (AV.int .i64) v4)), (6, AV.lst false false (List.map (AV.int .i64) v5)), (8, AV.lst false false (List.map (AV.int .i64) v9)), (9, AV.int .i64 v10)] [] 2 (by simp [h1, h1_]) (by simp [h1, h1_]) (by simp) ?_
    refine AW.seqR mixed [] [none, none, none, none, none, none, none] (by kernel_rfl) fun G349 R349 hG349 hR349 => ?_
    try simp [h1, h1_]
    repeat' apply And.intro
    try any_goals (first | omega | (unfold maxLen; omega) | (simp [h1, h1_]; done))
    obtain ⟨v11, v12, h9, hF⟩ := bnd2_elim hF
    refine aCall_l (w_roster_Decode k _ _ _ h9) (by simp) [] [] [] rfl (.cons (.same (by simp [h1, h1_])) .nil) (by simp [h1, h1_]) (by decide) (by simp) (by simp) (.inl rfl) (by simp) (by simp) ?_
    try simp [h1, h1_]
    repeat' apply And.intro
    any_goals (first | exact hG349 _ (by kernel_rfl) | refine hR349 _ _ _ ?_ | omega | (unfold maxLen; omega) | (simp [h1, h1_]; done) | (simp [h1, h1_]; omega))
    refine AW.wk [(0, AV.int .u64 v0), (1, AV.int .u64 v1), (5, AV.lst false false (List.map (AV.int .i64) v4)), (6, AV.lst false false (List.map (AV.int .i64) v5)), (8, AV.lst false false (List.map (AV.int .i64) v9)), (9, AV.int .i64 v10), (10, AV.slc 2 0 1 v11.length false), (11, AV.int .i64 v12)] [(2, .grow (List.map (AV.int .i64) v11))] 3 (by simp [h1, h1_]) (by simp [h1, h1_]) (by simp) ?_
    refine AW.frz 2 (o := .grow (List.map (AV.int .i64) v11)) (by simp [h1, h1_]) rfl [(10, AV.lst false false (List.map (AV.int .i64) v11))] [] ⟨(.l (by simp) (by simp) (by simp) (by simp)), trivial⟩ trivial ?_
    refine AW.wk [(0, AV.int .u64 v0), (1, AV.int .u64 v1), (5, AV.lst false false (List.map (AV.int .i64) v4)), (6, AV.lst false false (List.map (AV.int .i64) v5)), (8, AV.lst false false (List.map (AV.int .i64) v9)), (9, AV.int .i64 v10), (10, AV.lst false false (List.map (AV.int .i64) v11)), (11, AV.int .i64 v12)] [] 3 (by simp [h1, h1_]) (by simp [h1, h1_]) (by simp) ?_
    refine AW.seq fun K352 hK352 => ?_
    refine AW.seqR mixed [] [none, none] (by kernel_rfl) fun G353 R353 hG353 hR353 => ?_
    try simp [h1, h1_]
    repeat' apply And.intro
    any_goals (first | exact hG353 _ (by kernel_rfl) | refine hR353 _ _ _ ?_ | omega | (unfold maxLen; omega) | (simp [h1, h1_]; done) | (simp [h1, h1_]; omega))
    refine AW.wk [(0, AV.int .u64 v0), (1, AV.int .u64 v1), (5, AV.lst false false (List.map (AV.int .i64) v4)), (6, AV.lst false false (List.map (AV.int .i64) v5)), (8, AV.lst false false (List.map (AV.int .i64) v9)), (9, AV.int .i64 v10), (10, AV.lst false false (List.map (AV.int .i64) v11)), (11, AV.int .i64 v12), (52, AV.bool (v0 == 0))] [] 3 (by simp [h1, h1_]) (by simp [h1, h1_]) (by simp) ?_
    by_cases h10 : v0 = 0
    · replace hF := ite_t h10 hF
      have h10q : v0 = 0 := h10
      have h10_ := eqb_t h10q
      have h10__ := neb_f h10q
      refine AW.condT (by decide) (by first | (simp [h1, h1_, h10_, h10__, h10q]; done) | (simp [h1, h1_, h10_, h10__, h10q]; omega)) ?_
      refine AW.seqR mixed [] [none, none, none, some (55, true), some (55, true), none, none, some (59, true), none, none] (by kernel_rfl) fun G354 R354 hG354 hR354 => ?_
      by_cases h11 : v10 = 43
      · replace hF := ite_t h11 hF
        have h11q : v10 = 43 := h11
        have h11_ := eqb_t h11q
        have h11__ := neb_f h11q
        by_cases h12 : v12 = 43
        · replace hF := ite_t h12 hF
          have h12q : v12 = 43 := h12
          have h12_ := eqb_t h12q
          have h12__ := neb_f h12q
          try simp [h1, h1_, h10_, h10__, h10q, h11_, h11__, h11q, h12_, h12__, h12q]
          repeat' apply And.intro
          try any_goals (first | omega | (unfold maxLen; omega) | (simp [h1, h1_, h10_, h10__, h10q, h11_, h11__, h11q, h12_, h12__, h12q]; done))
          obtain ⟨v13, h13, hF⟩ := bnd1_elim hF
          refine aCall_l (w_law24_awake k _ h13) (by simp) [] [] [] rfl .nil (by simp [h1, h1_, h10_, h10__, h10q, h11_, h11__, h11q, h12_, h12__, h12q]) (by decide) (by simp) (by simp) (.inl rfl) (by simp) (by simp) ?_
          try simp [h1, h1_, h10_, h10__, h10q, h11_, h11__, h11q, h12_, h12__, h12q]
          repeat' apply And.intro
          any_goals (first | exact hG354 _ (by kernel_rfl) | refine hR354 _ _ _ ?_ | omega | (unfold maxLen; omega) | (simp [h1, h1_, h10_, h10__, h10q, h11_, h11__, h11q, h12_, h12__, h12q]; done) | (simp [h1, h1_, h10_, h10__, h10q, h11_, h11__, h11q, h12_, h12__, h12q]; omega))
          refine AW.wk [(4, AV.bool v13)] [] 3 (by simp [h1, h1_, h10_, h10__, h10q, h11_, h11__, h11q, h12_, h12__, h12q]) (by simp [h1, h1_, h10_, h10__, h10q, h11_, h11__, h11q, h12_, h12__, h12q]) (by simp) ?_
          simp only [Option.some.injEq] at hF
          subst hF
          refine AW.ret (hQ _ _ _ ?_ (matchO_0 ?_)).1
          · simp [Try.f17, h1, h1_, h10_, h10__, h10q, h11_, h11__, h11q, h12_, h12__, h12q]
          · simp [h1, h1_, h10_, h10__, h10q, h11_, h11__, h11q, h12_, h12__, h12q]
        · replace hF := ite_f h12 hF
          have h12_ := eqb_f h12
          have h12__ := neb_t h12
          try simp [h1, h1_, h10_, h10__, h10q, h11_, h11__, h11q, h12, h12_, h12__]
          repeat' apply And.intro
          any_goals (first | exact hG354 _ (by kernel_rfl) | refine hR354 _ _ _ ?_ | omega | (unfold maxLen; omega) | (simp [h1, h1_, h10_, h10__, h10q, h11_, h11__, h11q, h12, h12_, h12__]; done) | (simp [h1, h1_, h10_, h10__, h10q, h11_, h11__, h11q, h12, h12_, h12__]; omega))
          refine AW.wk [(4, AV.bool false)] [] 3 (by simp [h1, h1_, h10_, h10__, h10q, h11_, h11__, h11q, h12, h12_, h12__]) (by simp [h1, h1_, h10_, h10__, h10q, h11_, h11__, h11q, h12, h12_, h12__]) (by simp) ?_
          simp only [Option.some.injEq] at hF
          subst hF
          refine AW.ret (hQ _ _ _ ?_ (matchO_0 ?_)).1
          · simp [Try.f17, h1, h1_, h10_, h10__, h10q, h11_, h11__, h11q, h12, h12_, h12__]
          · simp [h1, h1_, h10_, h10__, h10q, h11_, h11__, h11q, h12, h12_, h12__]
      · replace hF := ite_f h11 hF
        have h11_ := eqb_f h11
        have h11__ := neb_t h11
        try simp [h1, h1_, h10_, h10__, h10q, h11, h11_, h11__]
        repeat' apply And.intro
        any_goals (first | exact hG354 _ (by kernel_rfl) | refine hR354 _ _ _ ?_ | omega | (unfold maxLen; omega) | (simp [h1, h1_, h10_, h10__, h10q, h11, h11_, h11__]; done) | (simp [h1, h1_, h10_, h10__, h10q, h11, h11_, h11__]; omega))
        refine AW.wk [(4, AV.bool false)] [] 3 (by simp [h1, h1_, h10_, h10__, h10q, h11, h11_, h11__]) (by simp [h1, h1_, h10_, h10__, h10q, h11, h11_, h11__]) (by simp) ?_
        simp only [Option.some.injEq] at hF
        subst hF
        refine AW.ret (hQ _ _ _ ?_ (matchO_0 ?_)).1
        · simp [Try.f17, h1, h1_, h10_, h10__, h10q, h11, h11_, h11__]
        · simp [h1, h1_, h10_, h10__, h10q, h11, h11_, h11__]
    · replace hF := ite_f h10 hF
      have h10_ := eqb_f h10
      have h10__ := neb_t h10
      refine AW.condF (by decide) (by first | (simp [h1, h1_, h10, h10_, h10__]; done) | (simp [h1, h1_, h10, h10_, h10__]; omega)) ?_
      refine AW.skip ?_
      refine hK352 _ _ _ ?_
      refine AW.seqR mixed [] [none, none, none, none, none, none, none, none] (by kernel_rfl) fun G355 R355 hG355 hR355 => ?_
      try simp [h1, h1_, h10, h10_, h10__]
      repeat' apply And.intro
      try any_goals (first | omega | (unfold maxLen; omega) | (simp [h1, h1_, h10, h10_, h10__]; done))
      obtain ⟨v14, h14, hF⟩ := bnd1_elim hF
      refine aCall_l (w_roster_Join k _ _ _ h14) (by simp) [] [] [] rfl (.cons (.same (by simp [h1, h1_, h10, h10_, h10__])) (.cons (.same (by simp [h1, h1_, h10, h10_, h10__])) .nil)) (by simp [h1, h1_, h10, h10_, h10__]) (by decide) (by simp) (by simp) (.inl rfl) (by simp) (by simp) ?_
      try simp [h1, h1_, h10, h10_, h10__]
      repeat' apply And.intro
      try any_goals (first | omega | (unfold maxLen; omega) | (simp [h1, h1_, h10, h10_, h10__]; done))
      obtain ⟨v15, h15, hF⟩ := bnd1_elim hF
      refine aCall_l (w_roster_Minus k _ _ _ h15) (by simp) [] [] [] rfl (.cons (.same (by simp [h1, h1_, h10, h10_, h10__])) (.cons (.same (by simp [h1, h1_, h10, h10_, h10__])) .nil)) (by simp [h1, h1_, h10, h10_, h10__]) (by decide) (by simp) (by simp) (.inl rfl) (by simp) (by simp) ?_
      try simp [h1, h1_, h10, h10_, h10__]
      repeat' apply And.intro
      any_goals (first | exact hG355 _ (by kernel_rfl) | refine hR355 _ _ _ ?_ | omega | (unfold maxLen; omega) | (simp [h1, h1_, h10, h10_, h10__]; done) | (simp [h1, h1_, h10, h10_, h10__]; omega))
      refine AW.wk [(0, AV.int .u64 v0), (1, AV.int .u64 v1), (5, AV.lst false false (List.map (AV.int .i64) v4)), (6, AV.lst false false (List.map (AV.int .i64) v5)), (8, AV.lst false false (List.map (AV.int .i64) v9)), (9, AV.int .i64 v10), (10, AV.lst false false (List.map (AV.int .i64) v11)), (11, AV.int .i64 v12), (12, AV.slc 3 0 1 v14.length false), (13, AV.slc 4 0 1 v15.length false)] [(3, .grow (List.map (AV.int .i64) v14)), (4, .grow (List.map (AV.int .i64) v15))] 5 (by simp [h1, h1_, h10, h10_, h10__]) (by simp [h1, h1_, h10, h10_, h10__]) (by simp) ?_
      refine AW.frz 3 (o := .grow (List.map (AV.int .i64) v14)) (by simp [h1, h1_, h10, h10_, h10__]) rfl [(12, AV.lst false false (List.map (AV.int .i64) v14))] [] ⟨(.l (by simp) (by simp) (by simp) (by simp)), trivial⟩ trivial ?_
      refine AW.frz 4 (o := .grow (List.map (AV.int .i64) v15)) (by simp [h1, h1_, h10, h10_, h10__]) rfl [(13, AV.lst false false (List.map (AV.int .i64) v15))] [] ⟨(.l (by simp) (by simp) (by simp) (by simp)), trivial⟩ trivial ?_
      refine AW.wk [(0, AV.int .u64 v0), (1, AV.int .u64 v1), (5, AV.lst false false (List.map (AV.int .i64) v4)), (6, AV.lst false false (List.map (AV.int .i64) v5)), (8, AV.lst false false (List.map (AV.int .i64) v9)), (9, AV.int .i64 v10), (10, AV.lst false false (List.map (AV.int .i64) v11)), (11, AV.int .i64 v12), (12, AV.lst false false (List.map (AV.int .i64) v14)), (13, AV.lst false false (List.map (AV.int .i64) v15))] [] 5 (by simp [h1, h1_, h10, h10_, h10__]) (by simp [h1, h1_, h10, h10_, h10__]) (by simp) ?_
      refine AW.seq fun K362 hK362 => ?_
      refine AW.seqR mixed [] [none, none, none, some (70, false), some (70, false), none, none, some (74, false), some (74, false), some (74, false), some (74, false), none, none, some (80, false), some (80, false), some (80, false), none, none, some (85, false), some (85, false), some (85, false), some (85, false), some (85, false), some (85, false), some (85, false), some (85, false), some (85, false), some (85, false), some (85, false), some (85, false), none] (by kernel_rfl) fun G363 R363 hG363 hR363 => ?_
      by_cases h16 : v10 ≠ 0
      · replace hF := ite_t h16 hF
        have h16_ := eqb_f h16
        have h16__ := neb_t h16
        try simp [h1, h1_, h10, h10_, h10__, h16, h16_, h16__]
        repeat' apply And.intro
        any_goals (first | exact hG363 _ (by kernel_rfl) | refine hR363 _ _ _ ?_ | omega | (unfold maxLen; omega) | (simp [h1, h1_, h10, h10_, h10__, h16, h16_, h16__]; done) | (simp [h1, h1_, h10, h10_, h10__, h16, h16_, h16__]; omega))
        refine AW.wk [(0, AV.int .u64 v0), (1, AV.int .u64 v1), (5, AV.lst false false (List.map (AV.int .i64) v4)), (6, AV.lst false false (List.map (AV.int .i64) v5)), (12, AV.lst false false (List.map (AV.int .i64) v14)), (13, AV.lst false false (List.map (AV.int .i64) v15)), (98, AV.bool true)] [] 5 (by simp [h1, h1_, h10, h10_, h10__, h16, h16_, h16__]) (by simp [h1, h1_, h10, h10_, h10__, h16, h16_, h16__]) (by simp) ?_
        refine AW.condT (by decide) (by simp [h1, h1_, h10, h10_, h10__, h16, h16_, h16__]) ?_
        refine AW.seqR mixed [] [none] (by kernel_rfl) fun G364 R364 hG364 hR364 => ?_
        try simp [h1, h1_, h10, h10_, h10__, h16, h16_, h16__]
        repeat' apply And.intro
        any_goals (first | exact hG364 _ (by kernel_rfl) | refine hR364 _ _ _ ?_ | omega | (unfold maxLen; omega) | (simp [h1, h1_, h10, h10_, h10__, h16, h16_, h16__]; done) | (simp [h1, h1_, h10, h10_, h10__, h16, h16_, h16__]; omega))
        refine AW.wk [(4, AV.bool false)] [] 5 (by simp [h1, h1_, h10, h10_, h10__, h16, h16_, h16__]) (by simp [h1, h1_, h10, h10_, h10__, h16, h16_, h16__]) (by simp) ?_
        simp only [Option.some.injEq] at hF
        subst hF
        refine AW.ret (hQ _ _ _ ?_ (matchO_0 ?_)).1
        · simp [Try.f17, h1, h1_, h10, h10_, h10__, h16, h16_, h16__]
        · simp [h1, h1_, h10, h10_, h10__, h16, h16_, h16__]
      · replace hF := ite_f h16 hF
        have h16q : v10 = 0 := Classical.not_not.1 h16
        have h16_ := eqb_t h16q
        have h16__ := neb_f h16q
        by_cases h17 : v12 ≠ 0
        · replace hF := ite_t h17 hF
          have h17_ := eqb_f h17
          have h17__ := neb_t h17
          try simp [h1, h1_, h10, h10_, h10__, h16_, h16__, h16q, h17, h17_, h17__]
          repeat' apply And.intro
          any_goals (first | exact hG363 _ (by kernel_rfl) | refine hR363 _ _ _ ?_ | omega | (unfold maxLen; omega) | (simp [h1, h1_, h10, h10_, h10__, h16_, h16__, h16q, h17, h17_, h17__]; done) | (simp [h1, h1_, h10, h10_, h10__, h16_, h16__, h16q, h17, h17_, h17__]; omega))
          refine AW.wk [(0, AV.int .u64 v0), (1, AV.int .u64 v1), (5, AV.lst false false (List.map (AV.int .i64) v4)), (6, AV.lst false false (List.map (AV.int .i64) v5)), (12, AV.lst false false (List.map (AV.int .i64) v14)), (13, AV.lst false false (List.map (AV.int .i64) v15)), (98, AV.bool true)] [] 5 (by simp [h1, h1_, h10, h10_, h10__, h16_, h16__, h16q, h17, h17_, h17__]) (by simp [h1, h1_, h10, h10_, h10__, h16_, h16__, h16q, h17, h17_, h17__]) (by simp) ?_
          refine AW.condT (by decide) (by simp [h1, h1_, h10, h10_, h10__, h16_, h16__, h16q, h17, h17_, h17__]) ?_
          refine AW.seqR mixed [] [none] (by kernel_rfl) fun G365 R365 hG365 hR365 => ?_
          try simp [h1, h1_, h10, h10_, h10__, h16_, h16__, h16q, h17, h17_, h17__]
          repeat' apply And.intro
          any_goals (first | exact hG365 _ (by kernel_rfl) | refine hR365 _ _ _ ?_ | omega | (unfold maxLen; omega) | (simp [h1, h1_, h10, h10_, h10__, h16_, h16__, h16q, h17, h17_, h17__]; done) | (simp [h1, h1_, h10, h10_, h10__, h16_, h16__, h16q, h17, h17_, h17__]; omega))
          refine AW.wk [(4, AV.bool false)] [] 5 (by simp [h1, h1_, h10, h10_, h10__, h16_, h16__, h16q, h17, h17_, h17__]) (by simp [h1, h1_, h10, h10_, h10__, h16_, h16__, h16q, h17, h17_, h17__]) (by simp) ?_
          simp only [Option.some.injEq] at hF
          subst hF
          refine AW.ret (hQ _ _ _ ?_ (matchO_0 ?_)).1
          · simp [Try.f17, h1, h1_, h10, h10_, h10__, h16_, h16__, h16q, h17, h17_, h17__]
          · simp [h1, h1_, h10, h10_, h10__, h16_, h16__, h16q, h17, h17_, h17__]
        · replace hF := ite_f h17 hF
          have h17q : v12 = 0 := Classical.not_not.1 h17
          have h17_ := eqb_t h17q
          have h17__ := neb_f h17q
          try simp [h1, h1_, h10, h10_, h10__, h16_, h16__, h16q, h17_, h17__, h17q]
          repeat' apply And.intro
          try any_goals (first | omega | (unfold maxLen; omega) | (simp [h1, h1_, h10, h10_, h10__, h16_, h16__, h16q, h17_, h17__, h17q]; done))
          obtain ⟨v16, h18, hF⟩ := bnd1_elim hF
          refine aCall_l (w_ref23_SameInts k _ _ _ h18) (by simp) [] [] [] rfl (.cons (.same (by simp [h1, h1_, h10, h10_, h10__, h16_, h16__, h16q, h17_, h17__, h17q])) (.cons (.same (by simp [h1, h1_, h10, h10_, h10__, h16_, h16__, h16q, h17_, h17__, h17q])) .nil)) (by simp [h1, h1_, h10, h10_, h10__, h16_, h16__, h16q, h17_, h17__, h17q]) (by decide) (by simp) (by simp) (.inl rfl) (by simp) (by simp) ?_
          by_cases h19 : (!v16) = true
          · replace hF := ite_t h19 hF
            have h19_ := h19
            try simp at h19_
            try simp [h1, h1_, h10, h10_, h10__, h16_, h16__, h16q, h17_, h17__, h17q, h19, h19_]
            repeat' apply And.intro
            any_goals (first | exact hG363 _ (by kernel_rfl) | refine hR363 _ _ _ ?_ | omega | (unfold maxLen; omega) | (simp [h1, h1_, h10, h10_, h10__, h16_, h16__, h16q, h17_, h17__, h17q, h19, h19_]; done) | (simp [h1, h1_, h10, h10_, h10__, h16_, h16__, h16q, h17_, h17__, h17q, h19, h19_]; omega))
            refine AW.wk [(0, AV.int .u64 v0), (1, AV.int .u64 v1), (5, AV.lst false false (List.map (AV.int .i64) v4)), (6, AV.lst false false (List.map (AV.int .i64) v5)), (12, AV.lst false false (List.map (AV.int .i64) v14)), (13, AV.lst false false (List.map (AV.int .i64) v15)), (98, AV.bool true)] [] 5 (by simp [h1, h1_, h10, h10_, h10__, h16_, h16__, h16q, h17_, h17__, h17q, h19, h19_]) (by simp [h1, h1_, h10, h10_, h10__, h16_, h16__, h16q, h17_, h17__, h17q, h19, h19_]) (by simp) ?_
            refine AW.condT (by decide) (by simp [h1, h1_, h10, h10_, h10__, h16_, h16__, h16q, h17_, h17__, h17q, h19, h19_]) ?_
            refine AW.seqR mixed [] [none] (by kernel_rfl) fun G366 R366 hG366 hR366 => ?_
            try simp [h1, h1_, h10, h10_, h10__, h16_, h16__, h16q, h17_, h17__, h17q, h19, h19_]
            repeat' apply And.intro
            any_goals (first | exact hG366 _ (by kernel_rfl) | refine hR366 _ _ _ ?_ | omega | (unfold maxLen; omega) | (simp [h1, h1_, h10, h10_, h10__, h16_, h16__, h16q, h17_, h17__, h17q, h19, h19_]; done) | (simp [h1, h1_, h10, h10_, h10__, h16_, h16__, h16q, h17_, h17__, h17q, h19, h19_]; omega))
            refine AW.wk [(4, AV.bool false)] [] 5 (by simp [h1, h1_, h10, h10_, h10__, h16_, h16__, h16q, h17_, h17__, h17q, h19, h19_]) (by simp [h1, h1_, h10, h10_, h10__, h16_, h16__, h16q, h17_, h17__, h17q, h19, h19_]) (by simp) ?_
            simp only [Option.some.injEq] at hF
            subst hF
            refine AW.ret (hQ _ _ _ ?_ (matchO_0 ?_)).1
            · simp [Try.f17, h1, h1_, h10, h10_, h10__, h16_, h16__, h16q, h17_, h17__, h17q, h19, h19_]
            · simp [h1, h1_, h10, h10_, h10__, h16_, h16__, h16q, h17_, h17__, h17q, h19, h19_]
          · replace hF := ite_f h19 hF
            have h19_ := h19
            try simp at h19_
            by_cases h20 : (v9.length : Int) ≠ 2
            · replace hF := ite_t h20 hF
              have h20_ := eqb_f h20
              have h20__ := neb_t h20
              try simp [h1, h1_, h10, h10_, h10__, h16_, h16__, h16q, h17_, h17__, h17q, h19, h19_, h20, h20_, h20__]
              repeat' apply And.intro
              any_goals (first | exact hG363 _ (by kernel_rfl) | refine hR363 _ _ _ ?_ | omega | (unfold maxLen; omega) | (simp [h1, h1_, h10, h10_, h10__, h16_, h16__, h16q, h17_, h17__, h17q, h19, h19_, h20, h20_, h20__]; done) | (simp [h1, h1_, h10, h10_, h10__, h16_, h16__, h16q, h17_, h17__, h17q, h19, h19_, h20, h20_, h20__]; omega))
              refine AW.wk [(0, AV.int .u64 v0), (1, AV.int .u64 v1), (5, AV.lst false false (List.map (AV.int .i64) v4)), (6, AV.lst false false (List.map (AV.int .i64) v5)), (12, AV.lst false false (List.map (AV.int .i64) v14)), (13, AV.lst false false (List.map (AV.int .i64) v15)), (98, AV.bool true)] [] 5 (by simp [h1, h1_, h10, h10_, h10__, h16_, h16__, h16q, h17_, h17__, h17q, h19, h19_, h20, h20_, h20__]) (by simp [h1, h1_, h10, h10_, h10__, h16_, h16__, h16q, h17_, h17__, h17q, h19, h19_, h20, h20_, h20__]) (by simp) ?_
              refine AW.condT (by decide) (by simp [h1, h1_, h10, h10_, h10__, h16_, h16__, h16q, h17_, h17__, h17q, h19, h19_, h20, h20_, h20__]) ?_
              refine AW.seqR mixed [] [none] (by kernel_rfl) fun G367 R367 hG367 hR367 => ?_
              try simp [h1, h1_, h10, h10_, h10__, h16_, h16__, h16q, h17_, h17__, h17q, h19, h19_, h20, h20_, h20__]
              repeat' apply And.intro
              any_goals (first | exact hG367 _ (by kernel_rfl) | refine hR367 _ _ _ ?_ | omega | (unfold maxLen; omega) | (simp [h1, h1_, h10, h10_, h10__, h16_, h16__, h16q, h17_, h17__, h17q, h19, h19_, h20, h20_, h20__]; done) | (simp [h1, h1_, h10, h10_, h10__, h16_, h16__, h16q, h17_, h17__, h17q, h19, h19_, h20, h20_, h20__]; omega))
              refine AW.wk [(4, AV.bool false)] [] 5 (by simp [h1, h1_, h10, h10_, h10__, h16_, h16__, h16q, h17_, h17__, h17q, h19, h19_, h20, h20_, h20__]) (by simp [h1, h1_, h10, h10_, h10__, h16_, h16__, h16q, h17_, h17__, h17q, h19, h19_, h20, h20_, h20__]) (by simp) ?_
              simp only [Option.some.injEq] at hF
              subst hF
              refine AW.ret (hQ _ _ _ ?_ (matchO_0 ?_)).1
              · simp [Try.f17, h1, h1_, h10, h10_, h10__, h16_, h16__, h16q, h17_, h17__, h17q, h19, h19_, h20, h20_, h20__]
              · simp [h1, h1_, h10, h10_, h10__, h16_, h16__, h16q, h17_, h17__, h17q, h19, h19_, h20, h20_, h20__]
            · replace hF := ite_f h20 hF
              have h20q : (v9.length : Int) = 2 := Classical.not_not.1 h20
              have h20_ := eqb_t h20q
              have h20__ := neb_f h20q
              obtain ⟨v17, h21, h22, h23, hF⟩ := idx_elim hF
              have h23_ := get_of h23
              try simp at h23_
              have h22_ := h22
              try simp at h22_
              obtain ⟨v18, h24, h25, h26, hF⟩ := idx_elim hF
              have h26_ := get_of h26
              try simp at h26_
              have h25_ := h25
              try simp at h25_
              try simp [h1, h1_, h10, h10_, h10__, h16_, h16__, h16q, h17_, h17__, h17q, h19, h19_, h20_, h20__, h20q, h21, h22, h23, h23_, h22_, h24, h25, h26, h26_, h25_]
              repeat' apply And.intro
              any_goals (first | exact hG363 _ (by kernel_rfl) | refine hR363 _ _ _ ?_ | omega | (unfold maxLen; omega) | (simp [h1, h1_, h10, h10_, h10__, h16_, h16__, h16q, h17_, h17__, h17q, h19, h19_, h20_, h20__, h20q, h21, h22, h23, h23_, h22_, h24, h25, h26, h26_, h25_]; done) | (simp [h1, h1_, h10, h10_, h10__, h16_, h16__, h16q, h17_, h17__, h17q, h19, h19_, h20_, h20__, h20q, h21, h22, h23, h23_, h22_, h24, h25, h26, h26_, h25_]; omega))
              refine AW.wk [(0, AV.int .u64 v0), (1, AV.int .u64 v1), (5, AV.lst false false (List.map (AV.int .i64) v4)), (6, AV.lst false false (List.map (AV.int .i64) v5)), (12, AV.lst false false (List.map (AV.int .i64) v14)), (13, AV.lst false false (List.map (AV.int .i64) v15)), (98, AV.bool ((bitsV .or .u64 (IntKind.wrap .u64 v17) (IntKind.wrap .u64 ((IntKind.wrap .u64 v18) * 2 ^ (32)))) != v0))] [] 5 (by simp [h1, h1_, h10, h10_, h10__, h16_, h16__, h16q, h17_, h17__, h17q, h19, h19_, h20_, h20__, h20q, h21, h22, h23, h23_, h22_, h24, h25, h26, h26_, h25_]) (by simp [h1, h1_, h10, h10_, h10__, h16_, h16__, h16q, h17_, h17__, h17q, h19, h19_, h20_, h20__, h20q, h21, h22, h23, h23_, h22_, h24, h25, h26, h26_, h25_]) (by simp) ?_
              by_cases h27 : (bitsV .or .u64 (IntKind.wrap .u64 v17) (IntKind.wrap .u64 ((IntKind.wrap .u64 v18) * 2 ^ (32)))) ≠ v0
              · replace hF := ite_t h27 hF
                have h27_ := eqb_f h27
                have h27__ := neb_t h27
                refine AW.condT (by decide) (by first | (simp [h1, h1_, h10, h10_, h10__, h16_, h16__, h16q, h17_, h17__, h17q, h19, h19_, h20_, h20__, h20q, h21, h22, h23, h23_, h22_, h24, h25, h26, h26_, h25_, h27, h27_, h27__]; done) | (simp [-Int.reducePow, h1, h1_, h10, h10_, h10__, h16_, h16__, h16q, h17_, h17__, h17q, h19, h19_, h20_, h20__, h20q, h21, h22, h23, h23_, h22_, h24, h25, h26, h26_, h25_, h27, h27_, h27__]; done) | (simp [h1, h1_, h10, h10_, h10__, h16_, h16__, h16q, h17_, h17__, h17q, h19, h19_, h20_, h20__, h20q, h21, h22, h23, h23_, h22_, h24, h25, h26, h26_, h25_, h27, h27_, h27__]; omega)) ?_
                refine AW.seqR mixed [] [none] (by kernel_rfl) fun G368 R368 hG368 hR368 => ?_
                try simp [h1, h1_, h10, h10_, h10__, h16_, h16__, h16q, h17_, h17__, h17q, h19, h19_, h20_, h20__, h20q, h21, h22, h23, h23_, h22_, h24, h25, h26, h26_, h25_, h27, h27_, h27__]
                repeat' apply And.intro
                any_goals (first | exact hG368 _ (by kernel_rfl) | refine hR368 _ _ _ ?_ | omega | (unfold maxLen; omega) | (simp [h1, h1_, h10, h10_, h10__, h16_, h16__, h16q, h17_, h17__, h17q, h19, h19_, h20_, h20__, h20q, h21, h22, h23, h23_, h22_, h24, h25, h26, h26_, h25_, h27, h27_, h27__]; done) | (simp [h1, h1_, h10, h10_, h10__, h16_, h16__, h16q, h17_, h17__, h17q, h19, h19_, h20_, h20__, h20q, h21, h22, h23, h23_, h22_, h24, h25, h26, h26_, h25_, h27, h27_, h27__]; omega))
                refine AW.wk [(4, AV.bool false)] [] 5 (by simp [h1, h1_, h10, h10_, h10__, h16_, h16__, h16q, h17_, h17__, h17q, h19, h19_, h20_, h20__, h20q, h21, h22, h23, h23_, h22_, h24, h25, h26, h26_, h25_, h27, h27_, h27__]) (by simp [h1, h1_, h10, h10_, h10__, h16_, h16__, h16q, h17_, h17__, h17q, h19, h19_, h20_, h20__, h20q, h21, h22, h23, h23_, h22_, h24, h25, h26, h26_, h25_, h27, h27_, h27__]) (by simp) ?_
                simp only [Option.some.injEq] at hF
                subst hF
                refine AW.ret (hQ _ _ _ ?_ (matchO_0 ?_)).1
                · simp [Try.f17, h1, h1_, h10, h10_, h10__, h16_, h16__, h16q, h17_, h17__, h17q, h19, h19_, h20_, h20__, h20q, h21, h22, h23, h23_, h22_, h24, h25, h26, h26_, h25_, h27, h27_, h27__]
                · simp [h1, h1_, h10, h10_, h10__, h16_, h16__, h16q, h17_, h17__, h17q, h19, h19_, h20_, h20__, h20q, h21, h22, h23, h23_, h22_, h24, h25, h26, h26_, h25_, h27, h27_, h27__]
              · replace hF := ite_f h27 hF
                have h27q : (bitsV .or .u64 (IntKind.wrap .u64 v17) (IntKind.wrap .u64 ((IntKind.wrap .u64 v18) * 2 ^ (32)))) = v0 := Classical.not_not.1 h27
                have h27_ := eqb_t h27q
                have h27__ := neb_f h27q
                refine AW.condF (by decide) (by first | (simp [h1, h1_, h10, h10_, h10__, h16_, h16__, h16q, h17_, h17__, h17q, h19, h19_, h20_, h20__, h20q, h21, h22, h23, h23_, h22_, h24, h25, h26, h26_, h25_, h27_, h27__]; done) | (simp [-Int.reducePow, h1, h1_, h10, h10_, h10__, h16_, h16__, h16q, h17_, h17__, h17q, h19, h19_, h20_, h20__, h20q, h21, h22, h23, h23_, h22_, h24, h25, h26, h26_, h25_, h27_, h27__]; done) | (simp [h1, h1_, h10, h10_, h10__, h16_, h16__, h16q, h17_, h17__, h17q, h19, h19_, h20_, h20__, h20q, h21, h22, h23, h23_, h22_, h24, h25, h26, h26_, h25_, h27_, h27__]; omega)) ?_
                refine AW.skip ?_
                refine hK362 _ _ _ ?_
                refine AW.seq fun K410 hK410 => ?_
                refine AW.seqR mixed [] [none] (by kernel_rfl) fun G411 R411 hG411 hR411 => ?_
                try simp [h1, h1_, h10, h10_, h10__, h16_, h16__, h16q, h17_, h17__, h17q, h19, h19_, h20_, h20__, h20q, h21, h22, h23, h23_, h22_, h24, h25, h26, h26_, h25_, h27_, h27__]
                repeat' apply And.intro
                any_goals (first | exact hG411 _ (by kernel_rfl) | refine hR411 _ _ _ ?_ | omega | (unfold maxLen; omega) | (simp [h1, h1_, h10, h10_, h10__, h16_, h16__, h16q, h17_, h17__, h17q, h19, h19_, h20_, h20__, h20q, h21, h22, h23, h23_, h22_, h24, h25, h26, h26_, h25_, h27_, h27__]; done) | (simp [h1, h1_, h10, h10_, h10__, h16_, h16__, h16q, h17_, h17__, h17q, h19, h19_, h20_, h20__, h20q, h21, h22, h23, h23_, h22_, h24, h25, h26, h26_, h25_, h27_, h27__]; omega))
                refine AW.wk [(0, AV.int .u64 v0), (1, AV.int .u64 v1), (5, AV.lst false false (List.map (AV.int .i64) v4)), (6, AV.lst false false (List.map (AV.int .i64) v5)), (12, AV.lst false false (List.map (AV.int .i64) v14)), (13, AV.lst false false (List.map (AV.int .i64) v15)), (14, AV.int .i64 0)] [] 5 (by simp [h1, h1_, h10, h10_, h10__, h16_, h16__, h16q, h17_, h17__, h17q, h19, h19_, h20_, h20__, h20q, h21, h22, h23, h23_, h22_, h24, h25, h26, h26_, h25_, h27_, h27__]) (by simp [h1, h1_, h10, h10_, h10__, h16_, h16__, h16q, h17_, h17__, h17q, h19, h19_, h20_, h20__, h20q, h21, h22, h23, h23_, h22_, h24, h25, h26, h26_, h25_, h27_, h27__]) (by simp) ?_
                refine AW.block ?_
                refine AW.rnm (m := 0) h0 [] [(0, AV.int .u64 v0), (1, AV.int .u64 v1), (5, AV.lst false false (List.map (AV.int .i64) v4)), (6, AV.lst false false (List.map (AV.int .i64) v5)), (12, AV.lst false false (List.map (AV.int .i64) v14)), (13, AV.lst false false (List.map (AV.int .i64) v15)), (14, AV.int .i64 0)] [] 0 (by decide) (by decide) (by decide) rfl (by simp [h1, h1_, h10, h10_, h10__, h16_, h16__, h16q, h17_, h17__, h17q, h19, h19_, h20_, h20__, h20q, h21, h22, h23, h23_, h22_, h24, h25, h26, h26_, h25_, h27_, h27__]) (by simp [h1, h1_, h10, h10_, h10__, h16_, h16__, h16q, h17_, h17__, h17q, h19, h19_, h20_, h20__, h20q, h21, h22, h23, h23_, h22_, h24, h25, h26, h26_, h25_, h27_, h27__]) ?_
                refine AW.loopF (α := Int) (fun n v19 => law24_RosterBack.L4 k v0 v1 v4 v5 v14 v15 n v19 = some v2) (fun v19 => [(0, AV.int .u64 v0), (1, AV.int .u64 v1), (5, AV.lst false false (List.map (AV.int .i64) v4)), (6, AV.lst false false (List.map (AV.int .i64) v5)), (12, AV.lst false false (List.map (AV.int .i64) v14)), (13, AV.lst false false (List.map (AV.int .i64) v15)), (14, AV.int .i64 v19)]) (fun v19 => []) 0 k (0) hF (by simp [h1, h1_, h10, h10_, h10__, h16_, h16__, h16q, h17_, h17__, h17q, h19, h19_, h20_, h20__, h20q, h21, h22, h23, h23_, h22_, h24, h25, h26, h26_, h25_, h27_, h27__]) (by simp [h1, h1_, h10, h10_, h10__, h16_, h16__, h16q, h17_, h17__, h17q, h19, h19_, h20_, h20__, h20q, h21, h22, h23, h23_, h22_, h24, h25, h26, h26_, h25_, h27_, h27__]) (by simp) ?_
                rintro (_|n4) v19 hF K438 hK438
                · try dsimp only at hF
                  rw [law24_RosterBack.L4] at hF; cases hF
                try dsimp only at hF
                rw [law24_RosterBack.L4] at hF
                refine AW.seq fun K440 hK440 => ?_
                refine AW.seqR mixed [] [none, none] (by kernel_rfl) fun G441 R441 hG441 hR441 => ?_
                try simp [h1, h1_, h10, h10_, h10__, h16_, h16__, h16q, h17_, h17__, h17q, h19, h19_, h20_, h20__, h20q, h21, h22, h23, h23_, h22_, h24, h25, h26, h26_, h25_, h27_, h27__]
                repeat' apply And.intro
                any_goals (first | exact hG441 _ (by kernel_rfl) | refine hR441 _ _ _ ?_ | omega | (unfold maxLen; omega) | (simp [h1, h1_, h10, h10_, h10__, h16_, h16__, h16q, h17_, h17__, h17q, h19, h19_, h20_, h20__, h20q, h21, h22, h23, h23_, h22_, h24, h25, h26, h26_, h25_, h27_, h27__]; done) | (simp [h1, h1_, h10, h10_, h10__, h16_, h16__, h16q, h17_, h17__, h17q, h19, h19_, h20_, h20__, h20q, h21, h22, h23, h23_, h22_, h24, h25, h26, h26_, h25_, h27_, h27__]; omega))
                refine AW.wk [(0, AV.int .u64 v0), (1, AV.int .u64 v1), (5, AV.lst false false (List.map (AV.int .i64) v4)), (6, AV.lst false false (List.map (AV.int .i64) v5)), (12, AV.lst false false (List.map (AV.int .i64) v14)), (13, AV.lst false false (List.map (AV.int .i64) v15)), (14, AV.int .i64 v19), (100, AV.bool (decide (v19 < 64)))] [] 0 (by simp [h1, h1_, h10, h10_, h10__, h16_, h16__, h16q, h17_, h17__, h17q, h19, h19_, h20_, h20__, h20q, h21, h22, h23, h23_, h22_, h24, h25, h26, h26_, h25_, h27_, h27__]) (by simp [h1, h1_, h10, h10_, h10__, h16_, h16__, h16q, h17_, h17__, h17q, h19, h19_, h20_, h20__, h20q, h21, h22, h23, h23_, h22_, h24, h25, h26, h26_, h25_, h27_, h27__]) (by simp) ?_
                by_cases h28 : v19 < 64
                · replace hF := ite_t h28 hF
                  have h28_ := h28
                  try simp at h28_
                  refine AW.condT (by decide) (by first | (simp [h1, h1_, h10, h10_, h10__, h16_, h16__, h16q, h17_, h17__, h17q, h19, h19_, h20_, h20__, h20q, h21, h22, h23, h23_, h22_, h24, h25, h26, h26_, h25_, h27_, h27__, h28, h28_]; done) | (simp [h1, h1_, h10, h10_, h10__, h16_, h16__, h16q, h17_, h17__, h17q, h19, h19_, h20_, h20__, h20q, h21, h22, h23, h23_, h22_, h24, h25, h26, h26_, h25_, h27_, h27__, h28, h28_]; omega)) ?_
                  refine AW.skip ?_
                  refine hK440 _ _ _ ?_
                  refine AW.seq fun K446 hK446 => ?_
                  refine AW.block ?_
                  refine AW.seqR mixed [] [none, none, none, none, none, none, none, none, none, none, none, none, none, none] (by kernel_rfl) fun G447 R447 hG447 hR447 => ?_
                  obtain ⟨h29, hF⟩ := chk_elim hF
                  obtain ⟨h30, hF⟩ := chk_elim hF
                  try simp [h1, h1_, h10, h10_, h10__, h16_, h16__, h16q, h17_, h17__, h17q, h19, h19_, h20_, h20__, h20q, h21, h22, h23, h23_, h22_, h24, h25, h26, h26_, h25_, h27_, h27__, h28, h28_, h29, h30]
                  repeat' apply And.intro
                  any_goals (first | exact hG447 _ (by kernel_rfl) | refine hR447 _ _ _ ?_ | omega | (unfold maxLen; omega) | (simp [h1, h1_, h10, h10_, h10__, h16_, h16__, h16q, h17_, h17__, h17q, h19, h19_, h20_, h20__, h20q, h21, h22, h23, h23_, h22_, h24, h25, h26, h26_, h25_, h27_, h27__, h28, h28_, h29, h30]; done) | (simp [h1, h1_, h10, h10_, h10__, h16_, h16__, h16q, h17_, h17__, h17q, h19, h19_, h20_, h20__, h20q, h21, h22, h23, h23_, h22_, h24, h25, h26, h26_, h25_, h27_, h27__, h28, h28_, h29, h30]; omega))
                  refine AW.wk [(0, AV.int .u64 v0), (1, AV.int .u64 v1), (5, AV.lst false false (List.map (AV.int .i64) v4)), (6, AV.lst false false (List.map (AV.int .i64) v5)), (12, AV.lst false false (List.map (AV.int .i64) v14)), (13, AV.lst false false (List.map (AV.int .i64) v15)), (14, AV.int .i64 v19), (15, AV.bool ((bitsV .and .u64 (Int.fdiv v0 (2 ^ (min ((IntKind.wrap .u64 v19).toNat) 64))) 1) == 1)), (16, AV.bool ((bitsV .and .u64 (Int.fdiv v1 (2 ^ (min ((IntKind.wrap .u64 v19).toNat) 64))) 1) == 1))] [] 0 (by simp [h1, h1_, h10, h10_, h10__, h16_, h16__, h16q, h17_, h17__, h17q, h19, h19_, h20_, h20__, h20q, h21, h22, h23, h23_, h22_, h24, h25, h26, h26_, h25_, h27_, h27__, h28, h28_, h29, h30]) (by simp [h1, h1_, h10, h10_, h10__, h16_, h16__, h16q, h17_, h17__, h17q, h19, h19_, h20_, h20__, h20q, h21, h22, h23, h23_, h22_, h24, h25, h26, h26_, h25_, h27_, h27__, h28, h28_, h29, h30]) (by simp) ?_
                  refine AW.midF (α := Bool) (fun v20 => law24_RosterBack.J5 k v19 (fun v19_ => law24_RosterBack.L4 k v0 v1 v4 v5 v14 v15 n4 v19_) v20 = some v2) (fun v20 => [(0, AV.int .u64 v0), (1, AV.int .u64 v1), (5, AV.lst false false (List.map (AV.int .i64) v4)), (6, AV.lst false false (List.map (AV.int .i64) v5)), (12, AV.lst false false (List.map (AV.int .i64) v14)), (13, AV.lst false false (List.map (AV.int .i64) v15)), (14, AV.int .i64 v19), (140, AV.bool v20)]) (fun v20 => []) 0 (fun K451 hK451 => ?_) ?_
                  · refine AW.region mixed [] [none, none, none, none, none, some (119, false), none, none, none, some (123, false), some (123, false), some (123, false), some (123, false), some (123, false), some (128, true), some (128, true), some (123, false), some (123, false), none, none, some (134, false), some (134, false), some (134, false), some (134, false), some (134, false), none] (by kernel_rfl) fun G448 R448 hG448 hR448 => ?_
                    try simp [h1, h1_, h10, h10_, h10__, h16_, h16__, h16q, h17_, h17__, h17q, h19, h19_, h20_, h20__, h20q, h21, h22, h23, h23_, h22_, h24, h25, h26, h26_, h25_, h27_, h27__, h28, h28_, h29, h30]
                    repeat' apply And.intro
                    try any_goals (first | omega | (unfold maxLen; omega) | (simp [h1, h1_, h10, h10_, h10__, h16_, h16__, h16q, h17_, h17__, h17q, h19, h19_, h20_, h20__, h20q, h21, h22, h23, h23_, h22_, h24, h25, h26, h26_, h25_, h27_, h27__, h28, h28_, h29, h30]; done))
                    obtain ⟨v21, h32, hF⟩ := bnd1_elim hF
                    refine aCall_l (w_roster_Has k _ _ _ h32) (by simp) [] [] [] rfl (.cons (.same (by simp [h1, h1_, h10, h10_, h10__, h16_, h16__, h16q, h17_, h17__, h17q, h19, h19_, h20_, h20__, h20q, h21, h22, h23, h23_, h22_, h24, h25, h26, h26_, h25_, h27_, h27__, h28, h28_, h29, h30])) (.cons (.same (by simp [h1, h1_, h10, h10_, h10__, h16_, h16__, h16q, h17_, h17__, h17q, h19, h19_, h20_, h20__, h20q, h21, h22, h23, h23_, h22_, h24, h25, h26, h26_, h25_, h27_, h27__, h28, h28_, h29, h30])) .nil)) (by simp [h1, h1_, h10, h10_, h10__, h16_, h16__, h16q, h17_, h17__, h17q, h19, h19_, h20_, h20__, h20q, h21, h22, h23, h23_, h22_, h24, h25, h26, h26_, h25_, h27_, h27__, h28, h28_, h29, h30]) (by decide) (by simp) (by simp) (.inl rfl) (by simp) (by simp) ?_
                    by_cases h33 : (bitsV .and .u64 (Int.fdiv v0 (2 ^ (min ((IntKind.wrap .u64 v19).toNat) 64))) 1) = 1
                    · replace hF := ite_t h33 hF
                      have h33q : (bitsV .and .u64 (Int.fdiv v0 (2 ^ (min ((IntKind.wrap .u64 v19).toNat) 64))) 1) = 1 := h33
                      have h33_ := eqb_t h33q
                      have h33__ := neb_f h33q
                      by_cases h34 : (v21 != true) = true
                      · replace hF := ite_t h34 hF
                        have h34_ := h34
                        try simp at h34_
                        try simp [h1, h1_, h10, h10_, h10__, h16_, h16__, h16q, h17_, h17__, h17q, h19, h19_, h20_, h20__, h20q, h21, h22, h23, h23_, h22_, h24, h25, h26, h26_, h25_, h27_, h27__, h28, h28_, h29, h30, h33_, h33__, h33q, h34, h34_]
                        repeat' apply And.intro
                        any_goals (first | exact hG448 _ (by kernel_rfl) | refine hR448 _ _ _ ?_ | omega | (unfold maxLen; omega) | (simp [h1, h1_, h10, h10_, h10__, h16_, h16__, h16q, h17_, h17__, h17q, h19, h19_, h20_, h20__, h20q, h21, h22, h23, h23_, h22_, h24, h25, h26, h26_, h25_, h27_, h27__, h28, h28_, h29, h30, h33_, h33__, h33q, h34, h34_]; done) | (simp [h1, h1_, h10, h10_, h10__, h16_, h16__, h16q, h17_, h17__, h17q, h19, h19_, h20_, h20__, h20q, h21, h22, h23, h23_, h22_, h24, h25, h26, h26_, h25_, h27_, h27__, h28, h28_, h29, h30, h33_, h33__, h33q, h34, h34_]; omega))
                        refine hK451 _ _ _ ?_
                        refine Can.weak [(0, AV.int .u64 v0), (1, AV.int .u64 v1), (5, AV.lst false false (List.map (AV.int .i64) v4)), (6, AV.lst false false (List.map (AV.int .i64) v5)), (12, AV.lst false false (List.map (AV.int .i64) v14)), (13, AV.lst false false (List.map (AV.int .i64) v15)), (14, AV.int .i64 v19), (140, AV.bool true)] [] 0 (by simp [h1, h1_, h10, h10_, h10__, h16_, h16__, h16q, h17_, h17__, h17q, h19, h19_, h20_, h20__, h20q, h21, h22, h23, h23_, h22_, h24, h25, h26, h26_, h25_, h27_, h27__, h28, h28_, h29, h30, h33_, h33__, h33q, h34, h34_]) (by simp [h1, h1_, h10, h10_, h10__, h16_, h16__, h16q, h17_, h17__, h17q, h19, h19_, h20_, h20__, h20q, h21, h22, h23, h23_, h22_, h24, h25, h26, h26_, h25_, h27_, h27__, h28, h28_, h29, h30, h33_, h33__, h33q, h34, h34_]) (by simp) ?_
                        exact Can.join (true) hF (by simp [h1, h1_, h10, h10_, h10__, h16_, h16__, h16q, h17_, h17__, h17q, h19, h19_, h20_, h20__, h20q, h21, h22, h23, h23_, h22_, h24, h25, h26, h26_, h25_, h27_, h27__, h28, h28_, h29, h30, h33_, h33__, h33q, h34, h34_]) (by simp [h1, h1_, h10, h10_, h10__, h16_, h16__, h16q, h17_, h17__, h17q, h19, h19_, h20_, h20__, h20q, h21, h22, h23, h23_, h22_, h24, h25, h26, h26_, h25_, h27_, h27__, h28, h28_, h29, h30, h33_, h33__, h33q, h34, h34_]) (by simp)
                      · replace hF := ite_f h34 hF
                        have h34_ := h34
                        try simp at h34_
                        try simp [h1, h1_, h10, h10_, h10__, h16_, h16__, h16q, h17_, h17__, h17q, h19, h19_, h20_, h20__, h20q, h21, h22, h23, h23_, h22_, h24, h25, h26, h26_, h25_, h27_, h27__, h28, h28_, h29, h30, h33_, h33__, h33q, h34, h34_]
                        repeat' apply And.intro
                        try any_goals (first | omega | (unfold maxLen; omega) | (simp [h1, h1_, h10, h10_, h10__, h16_, h16__, h16q, h17_, h17__, h17q, h19, h19_, h20_, h20__, h20q, h21, h22, h23, h23_, h22_, h24, h25, h26, h26_, h25_, h27_, h27__, h28, h28_, h29, h30, h33_, h33__, h33q, h34, h34_]; done))
                        obtain ⟨v22, h35, hF⟩ := bnd1_elim hF
                        refine aCall_l (w_roster_Has k _ _ _ h35) (by simp) [] [] [] rfl (.cons (.same (by simp [h1, h1_, h10, h10_, h10__, h16_, h16__, h16q, h17_, h17__, h17q, h19, h19_, h20_, h20__, h20q, h21, h22, h23, h23_, h22_, h24, h25, h26, h26_, h25_, h27_, h27__, h28, h28_, h29, h30, h33_, h33__, h33q, h34, h34_])) (.cons (.same (by simp [h1, h1_, h10, h10_, h10__, h16_, h16__, h16q, h17_, h17__, h17q, h19, h19_, h20_, h20__, h20q, h21, h22, h23, h23_, h22_, h24, h25, h26, h26_, h25_, h27_, h27__, h28, h28_, h29, h30, h33_, h33__, h33q, h34, h34_])) .nil)) (by simp [h1, h1_, h10, h10_, h10__, h16_, h16__, h16q, h17_, h17__, h17q, h19, h19_, h20_, h20__, h20q, h21, h22, h23, h23_, h22_, h24, h25, h26, h26_, h25_, h27_, h27__, h28, h28_, h29, h30, h33_, h33__, h33q, h34, h34_]) (by decide) (by simp) (by simp) (.inl rfl) (by simp) (by simp) ?_
                        by_cases h36 : (v22 == ((bitsV .and .u64 (Int.fdiv v1 (2 ^ (min ((IntKind.wrap .u64 v19).toNat) 64))) 1) == 1)) = true
                        · replace hF := ite_t h36 hF
                          have h36_ := h36
                          try simp at h36_
                          try simp [h1, h1_, h10, h10_, h10__, h16_, h16__, h16q, h17_, h17__, h17q, h19, h19_, h20_, h20__, h20q, h21, h22, h23, h23_, h22_, h24, h25, h26, h26_, h25_, h27_, h27__, h28, h28_, h29, h30, h33_, h33__, h33q, h34, h34_, h36, h36_]
                          repeat' apply And.intro
                          any_goals (first | exact hG448 _ (by kernel_rfl) | refine hR448 _ _ _ ?_ | omega | (unfold maxLen; omega) | (simp [h1, h1_, h10, h10_, h10__, h16_, h16__, h16q, h17_, h17__, h17q, h19, h19_, h20_, h20__, h20q, h21, h22, h23, h23_, h22_, h24, h25, h26, h26_, h25_, h27_, h27__, h28, h28_, h29, h30, h33_, h33__, h33q, h34, h34_, h36, h36_]; done) | (simp [h1, h1_, h10, h10_, h10__, h16_, h16__, h16q, h17_, h17__, h17q, h19, h19_, h20_, h20__, h20q, h21, h22, h23, h23_, h22_, h24, h25, h26, h26_, h25_, h27_, h27__, h28, h28_, h29, h30, h33_, h33__, h33q, h34, h34_, h36, h36_]; omega))
                          refine hK451 _ _ _ ?_
                          refine Can.weak [(0, AV.int .u64 v0), (1, AV.int .u64 v1), (5, AV.lst false false (List.map (AV.int .i64) v4)), (6, AV.lst false false (List.map (AV.int .i64) v5)), (12, AV.lst false false (List.map (AV.int .i64) v14)), (13, AV.lst false false (List.map (AV.int .i64) v15)), (14, AV.int .i64 v19), (140, AV.bool true)] [] 0 (by simp [h1, h1_, h10, h10_, h10__, h16_, h16__, h16q, h17_, h17__, h17q, h19, h19_, h20_, h20__, h20q, h21, h22, h23, h23_, h22_, h24, h25, h26, h26_, h25_, h27_, h27__, h28, h28_, h29, h30, h33_, h33__, h33q, h34, h34_, h36, h36_]) (by simp [h1, h1_, h10, h10_, h10__, h16_, h16__, h16q, h17_, h17__, h17q, h19, h19_, h20_, h20__, h20q, h21, h22, h23, h23_, h22_, h24, h25, h26, h26_, h25_, h27_, h27__, h28, h28_, h29, h30, h33_, h33__, h33q, h34, h34_, h36, h36_]) (by simp) ?_
                          exact Can.join (true) hF (by simp [h1, h1_, h10, h10_, h10__, h16_, h16__, h16q, h17_, h17__, h17q, h19, h19_, h20_, h20__, h20q, h21, h22, h23, h23_, h22_, h24, h25, h26, h26_, h25_, h27_, h27__, h28, h28_, h29, h30, h33_, h33__, h33q, h34, h34_, h36, h36_]) (by simp [h1, h1_, h10, h10_, h10__, h16_, h16__, h16q, h17_, h17__, h17q, h19, h19_, h20_, h20__, h20q, h21, h22, h23, h23_, h22_, h24, h25, h26, h26_, h25_, h27_, h27__, h28, h28_, h29, h30, h33_, h33__, h33q, h34, h34_, h36, h36_]) (by simp)
                        · replace hF := ite_f h36 hF
                          have h36_ := h36
                          try simp at h36_
                          try simp [h1, h1_, h10, h10_, h10__, h16_, h16__, h16q, h17_, h17__, h17q, h19, h19_, h20_, h20__, h20q, h21, h22, h23, h23_, h22_, h24, h25, h26, h26_, h25_, h27_, h27__, h28, h28_, h29, h30, h33_, h33__, h33q, h34, h34_, h36, h36_]
                          repeat' apply And.intro
                          try any_goals (first | omega | (unfold maxLen; omega) | (simp [h1, h1_, h10, h10_, h10__, h16_, h16__, h16q, h17_, h17__, h17q, h19, h19_, h20_, h20__, h20q, h21, h22, h23, h23_, h22_, h24, h25, h26, h26_, h25_, h27_, h27__, h28, h28_, h29, h30, h33_, h33__, h33q, h34, h34_, h36, h36_]; done))
                          obtain ⟨v23, h37, hF⟩ := bnd1_elim hF
                          refine aCall_l (w_roster_Has k _ _ _ h37) (by simp) [] [] [] rfl (.cons (.same (by simp [h1, h1_, h10, h10_, h10__, h16_, h16__, h16q, h17_, h17__, h17q, h19, h19_, h20_, h20__, h20q, h21, h22, h23, h23_, h22_, h24, h25, h26, h26_, h25_, h27_, h27__, h28, h28_, h29, h30, h33_, h33__, h33q, h34, h34_, h36, h36_])) (.cons (.same (by simp [h1, h1_, h10, h10_, h10__, h16_, h16__, h16q, h17_, h17__, h17q, h19, h19_, h20_, h20__, h20q, h21, h22, h23, h23_, h22_, h24, h25, h26, h26_, h25_, h27_, h27__, h28, h28_, h29, h30, h33_, h33__, h33q, h34, h34_, h36, h36_])) .nil)) (by simp [h1, h1_, h10, h10_, h10__, h16_, h16__, h16q, h17_, h17__, h17q, h19, h19_, h20_, h20__, h20q, h21, h22, h23, h23_, h22_, h24, h25, h26, h26_, h25_, h27_, h27__, h28, h28_, h29, h30, h33_, h33__, h33q, h34, h34_, h36, h36_]) (by decide) (by simp) (by simp) (.inl rfl) (by simp) (by simp) ?_
                          try simp [h1, h1_, h10, h10_, h10__, h16_, h16__, h16q, h17_, h17__, h17q, h19, h19_, h20_, h20__, h20q, h21, h22, h23, h23_, h22_, h24, h25, h26, h26_, h25_, h27_, h27__, h28, h28_, h29, h30, h33_, h33__, h33q, h34, h34_, h36, h36_]
                          repeat' apply And.intro
                          any_goals (first | exact hG448 _ (by kernel_rfl) | refine hR448 _ _ _ ?_ | omega | (unfold maxLen; omega) | (simp [h1, h1_, h10, h10_, h10__, h16_, h16__, h16q, h17_, h17__, h17q, h19, h19_, h20_, h20__, h20q, h21, h22, h23, h23_, h22_, h24, h25, h26, h26_, h25_, h27_, h27__, h28, h28_, h29, h30, h33_, h33__, h33q, h34, h34_, h36, h36_]; done) | (simp [h1, h1_, h10, h10_, h10__, h16_, h16__, h16q, h17_, h17__, h17q, h19, h19_, h20_, h20__, h20q, h21, h22, h23, h23_, h22_, h24, h25, h26, h26_, h25_, h27_, h27__, h28, h28_, h29, h30, h33_, h33__, h33q, h34, h34_, h36, h36_]; omega))
                          refine hK451 _ _ _ ?_
                          refine Can.weak [(0, AV.int .u64 v0), (1, AV.int .u64 v1), (5, AV.lst false false (List.map (AV.int .i64) v4)), (6, AV.lst false false (List.map (AV.int .i64) v5)), (12, AV.lst false false (List.map (AV.int .i64) v14)), (13, AV.lst false false (List.map (AV.int .i64) v15)), (14, AV.int .i64 v19), (140, AV.bool (v23 != true))] [] 0 (by simp [h1, h1_, h10, h10_, h10__, h16_, h16__, h16q, h17_, h17__, h17q, h19, h19_, h20_, h20__, h20q, h21, h22, h23, h23_, h22_, h24, h25, h26, h26_, h25_, h27_, h27__, h28, h28_, h29, h30, h33_, h33__, h33q, h34, h34_, h36, h36_]) (by simp [h1, h1_, h10, h10_, h10__, h16_, h16__, h16q, h17_, h17__, h17q, h19, h19_, h20_, h20__, h20q, h21, h22, h23, h23_, h22_, h24, h25, h26, h26_, h25_, h27_, h27__, h28, h28_, h29, h30, h33_, h33__, h33q, h34, h34_, h36, h36_]) (by simp) ?_
                          exact Can.join ((v23 != true)) hF (by simp [h1, h1_, h10, h10_, h10__, h16_, h16__, h16q, h17_, h17__, h17q, h19, h19_, h20_, h20__, h20q, h21, h22, h23, h23_, h22_, h24, h25, h26, h26_, h25_, h27_, h27__, h28, h28_, h29, h30, h33_, h33__, h33q, h34, h34_, h36, h36_]) (by simp [h1, h1_, h10, h10_, h10__, h16_, h16__, h16q, h17_, h17__, h17q, h19, h19_, h20_, h20__, h20q, h21, h22, h23, h23_, h22_, h24, h25, h26, h26_, h25_, h27_, h27__, h28, h28_, h29, h30, h33_, h33__, h33q, h34, h34_, h36, h36_]) (by simp)
                    · replace hF := ite_f h33 hF
                      have h33_ := eqb_f h33
                      have h33__ := neb_t h33
                      by_cases h38 : (v21 != ((bitsV .and .u64 (Int.fdiv v1 (2 ^ (min ((IntKind.wrap .u64 v19).toNat) 64))) 1) == 1)) = true
                      · replace hF := ite_t h38 hF
                        have h38_ := h38
                        try simp at h38_
                        try simp [h1, h1_, h10, h10_, h10__, h16_, h16__, h16q, h17_, h17__, h17q, h19, h19_, h20_, h20__, h20q, h21, h22, h23, h23_, h22_, h24, h25, h26, h26_, h25_, h27_, h27__, h28, h28_, h29, h30, h33, h33_, h33__, h38, h38_]
                        repeat' apply And.intro
                        any_goals (first | exact hG448 _ (by kernel_rfl) | refine hR448 _ _ _ ?_ | omega | (unfold maxLen; omega) | (simp [h1, h1_, h10, h10_, h10__, h16_, h16__, h16q, h17_, h17__, h17q, h19, h19_, h20_, h20__, h20q, h21, h22, h23, h23_, h22_, h24, h25, h26, h26_, h25_, h27_, h27__, h28, h28_, h29, h30, h33, h33_, h33__, h38, h38_]; done) | (simp [h1, h1_, h10, h10_, h10__, h16_, h16__, h16q, h17_, h17__, h17q, h19, h19_, h20_, h20__, h20q, h21, h22, h23, h23_, h22_, h24, h25, h26, h26_, h25_, h27_, h27__, h28, h28_, h29, h30, h33, h33_, h33__, h38, h38_]; omega))
                        refine hK451 _ _ _ ?_
                        refine Can.weak [(0, AV.int .u64 v0), (1, AV.int .u64 v1), (5, AV.lst false false (List.map (AV.int .i64) v4)), (6, AV.lst false false (List.map (AV.int .i64) v5)), (12, AV.lst false false (List.map (AV.int .i64) v14)), (13, AV.lst false false (List.map (AV.int .i64) v15)), (14, AV.int .i64 v19), (140, AV.bool true)] [] 0 (by simp [h1, h1_, h10, h10_, h10__, h16_, h16__, h16q, h17_, h17__, h17q, h19, h19_, h20_, h20__, h20q, h21, h22, h23, h23_, h22_, h24, h25, h26, h26_, h25_, h27_, h27__, h28, h28_, h29, h30, h33, h33_, h33__, h38, h38_]) (by simp [h1, h1_, h10, h10_, h10__, h16_, h16__, h16q, h17_, h17__, h17q, h19, h19_, h20_, h20__, h20q, h21, h22, h23, h23_, h22_, h24, h25, h26, h26_, h25_, h27_, h27__, h28, h28_, h29, h30, h33, h33_, h33__, h38, h38_]) (by simp) ?_
                        exact Can.join (true) hF (by simp [h1, h1_, h10, h10_, h10__, h16_, h16__, h16q, h17_, h17__, h17q, h19, h19_, h20_, h20__, h20q, h21, h22, h23, h23_, h22_, h24, h25, h26, h26_, h25_, h27_, h27__, h28, h28_, h29, h30, h33, h33_, h33__, h38, h38_]) (by simp [h1, h1_, h10, h10_, h10__, h16_, h16__, h16q, h17_, h17__, h17q, h19, h19_, h20_, h20__, h20q, h21, h22, h23, h23_, h22_, h24, h25, h26, h26_, h25_, h27_, h27__, h28, h28_, h29, h30, h33, h33_, h33__, h38, h38_]) (by simp)
                      · replace hF := ite_f h38 hF
                        have h38_ := h38
                        try simp at h38_
                        try simp [h1, h1_, h10, h10_, h10__, h16_, h16__, h16q, h17_, h17__, h17q, h19, h19_, h20_, h20__, h20q, h21, h22, h23, h23_, h22_, h24, h25, h26, h26_, h25_, h27_, h27__, h28, h28_, h29, h30, h33, h33_, h33__, h38, h38_]
                        repeat' apply And.intro
                        try any_goals (first | omega | (unfold maxLen; omega) | (simp [h1, h1_, h10, h10_, h10__, h16_, h16__, h16q, h17_, h17__, h17q, h19, h19_, h20_, h20__, h20q, h21, h22, h23, h23_, h22_, h24, h25, h26, h26_, h25_, h27_, h27__, h28, h28_, h29, h30, h33, h33_, h33__, h38, h38_]; done))
                        obtain ⟨v24, h39, hF⟩ := bnd1_elim hF
                        refine aCall_l (w_roster_Has k _ _ _ h39) (by simp) [] [] [] rfl (.cons (.same (by simp [h1, h1_, h10, h10_, h10__, h16_, h16__, h16q, h17_, h17__, h17q, h19, h19_, h20_, h20__, h20q, h21, h22, h23, h23_, h22_, h24, h25, h26, h26_, h25_, h27_, h27__, h28, h28_, h29, h30, h33, h33_, h33__, h38, h38_])) (.cons (.same (by simp [h1, h1_, h10, h10_, h10__, h16_, h16__, h16q, h17_, h17__, h17q, h19, h19_, h20_, h20__, h20q, h21, h22, h23, h23_, h22_, h24, h25, h26, h26_, h25_, h27_, h27__, h28, h28_, h29, h30, h33, h33_, h33__, h38, h38_])) .nil)) (by simp [h1, h1_, h10, h10_, h10__, h16_, h16__, h16q, h17_, h17__, h17q, h19, h19_, h20_, h20__, h20q, h21, h22, h23, h23_, h22_, h24, h25, h26, h26_, h25_, h27_, h27__, h28, h28_, h29, h30, h33, h33_, h33__, h38, h38_]) (by decide) (by simp) (by simp) (.inl rfl) (by simp) (by simp) ?_
                        by_cases h40 : (v24 != false) = true
                        · replace hF := ite_t h40 hF
                          have h40_ := h40
                          try simp at h40_
                          try simp [h1, h1_, h10, h10_, h10__, h16_, h16__, h16q, h17_, h17__, h17q, h19, h19_, h20_, h20__, h20q, h21, h22, h23, h23_, h22_, h24, h25, h26, h26_, h25_, h27_, h27__, h28, h28_, h29, h30, h33, h33_, h33__, h38, h38_, h40, h40_]
                          repeat' apply And.intro
                          any_goals (first | exact hG448 _ (by kernel_rfl) | refine hR448 _ _ _ ?_ | omega | (unfold maxLen; omega) | (simp [h1, h1_, h10, h10_, h10__, h16_, h16__, h16q, h17_, h17__, h17q, h19, h19_, h20_, h20__, h20q, h21, h22, h23, h23_, h22_, h24, h25, h26, h26_, h25_, h27_, h27__, h28, h28_, h29, h30, h33, h33_, h33__, h38, h38_, h40, h40_]; done) | (simp [h1, h1_, h10, h10_, h10__, h16_, h16__, h16q, h17_, h17__, h17q, h19, h19_, h20_, h20__, h20q, h21, h22, h23, h23_, h22_, h24, h25, h26, h26_, h25_, h27_, h27__, h28, h28_, h29, h30, h33, h33_, h33__, h38, h38_, h40, h40_]; omega))
                          refine hK451 _ _ _ ?_
                          refine Can.weak [(0, AV.int .u64 v0), (1, AV.int .u64 v1), (5, AV.lst false false (List.map (AV.int .i64) v4)), (6, AV.lst false false (List.map (AV.int .i64) v5)), (12, AV.lst false false (List.map (AV.int .i64) v14)), (13, AV.lst false false (List.map (AV.int .i64) v15)), (14, AV.int .i64 v19), (140, AV.bool true)] [] 0 (by simp [h1, h1_, h10, h10_, h10__, h16_, h16__, h16q, h17_, h17__, h17q, h19, h19_, h20_, h20__, h20q, h21, h22, h23, h23_, h22_, h24, h25, h26, h26_, h25_, h27_, h27__, h28, h28_, h29, h30, h33, h33_, h33__, h38, h38_, h40, h40_]) (by simp [h1, h1_, h10, h10_, h10__, h16_, h16__, h16q, h17_, h17__, h17q, h19, h19_, h20_, h20__, h20q, h21, h22, h23, h23_, h22_, h24, h25, h26, h26_, h25_, h27_, h27__, h28, h28_, h29, h30, h33, h33_, h33__, h38, h38_, h40, h40_]) (by simp) ?_
                          exact Can.join (true) hF (by simp [h1, h1_, h10, h10_, h10__, h16_, h16__, h16q, h17_, h17__, h17q, h19, h19_, h20_, h20__, h20q, h21, h22, h23, h23_, h22_, h24, h25, h26, h26_, h25_, h27_, h27__, h28, h28_, h29, h30, h33, h33_, h33__, h38, h38_, h40, h40_]) (by simp [h1, h1_, h10, h10_, h10__, h16_, h16__, h16q, h17_, h17__, h17q, h19, h19_, h20_, h20__, h20q, h21, h22, h23, h23_, h22_, h24, h25, h26, h26_, h25_, h27_, h27__, h28, h28_, h29, h30, h33, h33_, h33__, h38, h38_, h40, h40_]) (by simp)
                        · replace hF := ite_f h40 hF
                          have h40_ := h40
                          try simp at h40_
                          try simp [h1, h1_, h10, h10_, h10__, h16_, h16__, h16q, h17_, h17__, h17q, h19, h19_, h20_, h20__, h20q, h21, h22, h23, h23_, h22_, h24, h25, h26, h26_, h25_, h27_, h27__, h28, h28_, h29, h30, h33, h33_, h33__, h38, h38_, h40, h40_]
                          repeat' apply And.intro
                          try any_goals (first | omega | (unfold maxLen; omega) | (simp [h1, h1_, h10, h10_, h10__, h16_, h16__, h16q, h17_, h17__, h17q, h19, h19_, h20_, h20__, h20q, h21, h22, h23, h23_, h22_, h24, h25, h26, h26_, h25_, h27_, h27__, h28, h28_, h29, h30, h33, h33_, h33__, h38, h38_, h40, h40_]; done))
                          obtain ⟨v25, h41, hF⟩ := bnd1_elim hF
                          refine aCall_l (w_roster_Has k _ _ _ h41) (by simp) [] [] [] rfl (.cons (.same (by simp [h1, h1_, h10, h10_, h10__, h16_, h16__, h16q, h17_, h17__, h17q, h19, h19_, h20_, h20__, h20q, h21, h22, h23, h23_, h22_, h24, h25, h26, h26_, h25_, h27_, h27__, h28, h28_, h29, h30, h33, h33_, h33__, h38, h38_, h40, h40_])) (.cons (.same (by simp [h1, h1_, h10, h10_, h10__, h16_, h16__, h16q, h17_, h17__, h17q, h19, h19_, h20_, h20__, h20q, h21, h22, h23, h23_, h22_, h24, h25, h26, h26_, h25_, h27_, h27__, h28, h28_, h29, h30, h33, h33_, h33__, h38, h38_, h40, h40_])) .nil)) (by simp [h1, h1_, h10, h10_, h10__, h16_, h16__, h16q, h17_, h17__, h17q, h19, h19_, h20_, h20__, h20q, h21, h22, h23, h23_, h22_, h24, h25, h26, h26_, h25_, h27_, h27__, h28, h28_, h29, h30, h33, h33_, h33__, h38, h38_, h40, h40_]) (by decide) (by simp) (by simp) (.inl rfl) (by simp) (by simp) ?_
                          try simp [h1, h1_, h10, h10_, h10__, h16_, h16__, h16q, h17_, h17__, h17q, h19, h19_, h20_, h20__, h20q, h21, h22, h23, h23_, h22_, h24, h25, h26, h26_, h25_, h27_, h27__, h28, h28_, h29, h30, h33, h33_, h33__, h38, h38_, h40, h40_]
                          repeat' apply And.intro
                          any_goals (first | exact hG448 _ (by kernel_rfl) | refine hR448 _ _ _ ?_ | omega | (unfold maxLen; omega) | (simp [h1, h1_, h10, h10_, h10__, h16_, h16__, h16q, h17_, h17__, h17q, h19, h19_, h20_, h20__, h20q, h21, h22, h23, h23_, h22_, h24, h25, h26, h26_, h25_, h27_, h27__, h28, h28_, h29, h30, h33, h33_, h33__, h38, h38_, h40, h40_]; done) | (simp [h1, h1_, h10, h10_, h10__, h16_, h16__, h16q, h17_, h17__, h17q, h19, h19_, h20_, h20__, h20q, h21, h22, h23, h23_, h22_, h24, h25, h26, h26_, h25_, h27_, h27__, h28, h28_, h29, h30, h33, h33_, h33__, h38, h38_, h40, h40_]; omega))
                          refine hK451 _ _ _ ?_
                          refine Can.weak [(0, AV.int .u64 v0), (1, AV.int .u64 v1), (5, AV.lst false false (List.map (AV.int .i64) v4)), (6, AV.lst false false (List.map (AV.int .i64) v5)), (12, AV.lst false false (List.map (AV.int .i64) v14)), (13, AV.lst false false (List.map (AV.int .i64) v15)), (14, AV.int .i64 v19), (140, AV.bool (v25 != false))] [] 0 (by simp [h1, h1_, h10, h10_, h10__, h16_, h16__, h16q, h17_, h17__, h17q, h19, h19_, h20_, h20__, h20q, h21, h22, h23, h23_, h22_, h24, h25, h26, h26_, h25_, h27_, h27__, h28, h28_, h29, h30, h33, h33_, h33__, h38, h38_, h40, h40_]) (by simp [h1, h1_, h10, h10_, h10__, h16_, h16__, h16q, h17_, h17__, h17q, h19, h19_, h20_, h20__, h20q, h21, h22, h23, h23_, h22_, h24, h25, h26, h26_, h25_, h27_, h27__, h28, h28_, h29, h30, h33, h33_, h33__, h38, h38_, h40, h40_]) (by simp) ?_
                          exact Can.join ((v25 != false)) hF (by simp [h1, h1_, h10, h10_, h10__, h16_, h16__, h16q, h17_, h17__, h17q, h19, h19_, h20_, h20__, h20q, h21, h22, h23, h23_, h22_, h24, h25, h26, h26_, h25_, h27_, h27__, h28, h28_, h29, h30, h33, h33_, h33__, h38, h38_, h40, h40_]) (by simp [h1, h1_, h10, h10_, h10__, h16_, h16__, h16q, h17_, h17__, h17q, h19, h19_, h20_, h20__, h20q, h21, h22, h23, h23_, h22_, h24, h25, h26, h26_, h25_, h27_, h27__, h28, h28_, h29, h30, h33, h33_, h33__, h38, h38_, h40, h40_]) (by simp)
                  · rintro v20 hF
                    try dsimp only at hF
                    unfold law24_RosterBack.J5 at hF
                    by_cases h31 : v20 = true
                    · replace hF := ite_t h31 hF
                      have h31_ := h31
                      try simp at h31_
                      refine AW.condT (by decide) (by first | (simp [h1, h1_, h10, h10_, h10__, h16_, h16__, h16q, h17_, h17__, h17q, h19, h19_, h20_, h20__, h20q, h21, h22, h23, h23_, h22_, h24, h25, h26, h26_, h25_, h27_, h27__, h28, h28_, h29, h30, h31, h31_]; done) | (simp [h1, h1_, h10, h10_, h10__, h16_, h16__, h16q, h17_, h17__, h17q, h19, h19_, h20_, h20__, h20q, h21, h22, h23, h23_, h22_, h24, h25, h26, h26_, h25_, h27_, h27__, h28, h28_, h29, h30, h31, h31_]; omega)) ?_
                      refine AW.seqR mixed [] [none] (by kernel_rfl) fun G449 R449 hG449 hR449 => ?_
                      try simp [h1, h1_, h10, h10_, h10__, h16_, h16__, h16q, h17_, h17__, h17q, h19, h19_, h20_, h20__, h20q, h21, h22, h23, h23_, h22_, h24, h25, h26, h26_, h25_, h27_, h27__, h28, h28_, h29, h30, h31, h31_]
                      repeat' apply And.intro
                      any_goals (first | exact hG449 _ (by kernel_rfl) | refine hR449 _ _ _ ?_ | omega | (unfold maxLen; omega) | (simp [h1, h1_, h10, h10_, h10__, h16_, h16__, h16q, h17_, h17__, h17q, h19, h19_, h20_, h20__, h20q, h21, h22, h23, h23_, h22_, h24, h25, h26, h26_, h25_, h27_, h27__, h28, h28_, h29, h30, h31, h31_]; done) | (simp [h1, h1_, h10, h10_, h10__, h16_, h16__, h16q, h17_, h17__, h17q, h19, h19_, h20_, h20__, h20q, h21, h22, h23, h23_, h22_, h24, h25, h26, h26_, h25_, h27_, h27__, h28, h28_, h29, h30, h31, h31_]; omega))
                      refine AW.wk [(4, AV.bool false)] [] 0 (by simp [h1, h1_, h10, h10_, h10__, h16_, h16__, h16q, h17_, h17__, h17q, h19, h19_, h20_, h20__, h20q, h21, h22, h23, h23_, h22_, h24, h25, h26, h26_, h25_, h27_, h27__, h28, h28_, h29, h30, h31, h31_]) (by simp [h1, h1_, h10, h10_, h10__, h16_, h16__, h16q, h17_, h17__, h17q, h19, h19_, h20_, h20__, h20q, h21, h22, h23, h23_, h22_, h24, h25, h26, h26_, h25_, h27_, h27__, h28, h28_, h29, h30, h31, h31_]) (by simp) ?_
                      simp only [Option.some.injEq] at hF
                      subst hF
                      refine AW.ret (hQ _ _ _ ?_ (matchO_0 ?_)).1
                      · simp [Try.f17, h1, h1_, h10, h10_, h10__, h16_, h16__, h16q, h17_, h17__, h17q, h19, h19_, h20_, h20__, h20q, h21, h22, h23, h23_, h22_, h24, h25, h26, h26_, h25_, h27_, h27__, h28, h28_, h29, h30, h31, h31_]
                      · simp [h1, h1_, h10, h10_, h10__, h16_, h16__, h16q, h17_, h17__, h17q, h19, h19_, h20_, h20__, h20q, h21, h22, h23, h23_, h22_, h24, h25, h26, h26_, h25_, h27_, h27__, h28, h28_, h29, h30, h31, h31_]
                    · replace hF := ite_f h31 hF
                      have h31_ := h31
                      try simp at h31_
                      refine AW.condF (by decide) (by first | (simp [h1, h1_, h10, h10_, h10__, h16_, h16__, h16q, h17_, h17__, h17q, h19, h19_, h20_, h20__, h20q, h21, h22, h23, h23_, h22_, h24, h25, h26, h26_, h25_, h27_, h27__, h28, h28_, h29, h30, h31, h31_]; done) | (simp [h1, h1_, h10, h10_, h10__, h16_, h16__, h16q, h17_, h17__, h17q, h19, h19_, h20_, h20__, h20q, h21, h22, h23, h23_, h22_, h24, h25, h26, h26_, h25_, h27_, h27__, h28, h28_, h29, h30, h31, h31_]; omega)) ?_
                      refine AW.skip ?_
                      refine hK446 _ _ _ ?_
                      refine AW.region mixed [] [none, none, none] (by kernel_rfl) fun G450 R450 hG450 hR450 => ?_
                      try simp [h1, h1_, h10, h10_, h10__, h16_, h16__, h16q, h17_, h17__, h17q, h19, h19_, h20_, h20__, h20q, h21, h22, h23, h23_, h22_, h24, h25, h26, h26_, h25_, h27_, h27__, h28, h28_, h29, h30, h31, h31_]
                      repeat' apply And.intro
                      any_goals (first | exact hG450 _ (by kernel_rfl) | refine hR450 _ _ _ ?_ | omega | (unfold maxLen; omega) | (simp [h1, h1_, h10, h10_, h10__, h16_, h16__, h16q, h17_, h17__, h17q, h19, h19_, h20_, h20__, h20q, h21, h22, h23, h23_, h22_, h24, h25, h26, h26_, h25_, h27_, h27__, h28, h28_, h29, h30, h31, h31_]; done) | (simp [h1, h1_, h10, h10_, h10__, h16_, h16__, h16q, h17_, h17__, h17q, h19, h19_, h20_, h20__, h20q, h21, h22, h23, h23_, h22_, h24, h25, h26, h26_, h25_, h27_, h27__, h28, h28_, h29, h30, h31, h31_]; omega))
                      refine hK438 _ _ _ ?_
                      refine Can.weak [(0, AV.int .u64 v0), (1, AV.int .u64 v1), (5, AV.lst false false (List.map (AV.int .i64) v4)), (6, AV.lst false false (List.map (AV.int .i64) v5)), (12, AV.lst false false (List.map (AV.int .i64) v14)), (13, AV.lst false false (List.map (AV.int .i64) v15)), (14, AV.int .i64 (IntKind.wrap .i64 (v19 + 1)))] [] 0 (by simp [h1, h1_, h10, h10_, h10__, h16_, h16__, h16q, h17_, h17__, h17q, h19, h19_, h20_, h20__, h20q, h21, h22, h23, h23_, h22_, h24, h25, h26, h26_, h25_, h27_, h27__, h28, h28_, h29, h30, h31, h31_]) (by simp [h1, h1_, h10, h10_, h10__, h16_, h16__, h16q, h17_, h17__, h17q, h19, h19_, h20_, h20__, h20q, h21, h22, h23, h23_, h22_, h24, h25, h26, h26_, h25_, h27_, h27__, h28, h28_, h29, h30, h31, h31_]) (by simp) ?_
                      exact Can.next (k' := n4) (IntKind.wrap .i64 (v19 + 1)) (by omega) hF (by simp [h1, h1_, h10, h10_, h10__, h16_, h16__, h16q, h17_, h17__, h17q, h19, h19_, h20_, h20__, h20q, h21, h22, h23, h23_, h22_, h24, h25, h26, h26_, h25_, h27_, h27__, h28, h28_, h29, h30, h31, h31_]) (by simp [h1, h1_, h10, h10_, h10__, h16_, h16__, h16q, h17_, h17__, h17q, h19, h19_, h20_, h20__, h20q, h21, h22, h23, h23_, h22_, h24, h25, h26, h26_, h25_, h27_, h27__, h28, h28_, h29, h30, h31, h31_]) (by simp)
                · replace hF := ite_f h28 hF
                  have h28_ := h28
                  try simp at h28_
                  refine AW.condF (by decide) (by first | (simp [h1, h1_, h10, h10_, h10__, h16_, h16__, h16q, h17_, h17__, h17q, h19, h19_, h20_, h20__, h20q, h21, h22, h23, h23_, h22_, h24, h25, h26, h26_, h25_, h27_, h27__, h28, h28_]; done) | (simp [h1, h1_, h10, h10_, h10__, h16_, h16__, h16q, h17_, h17__, h17q, h19, h19_, h20_, h20__, h20q, h21, h22, h23, h23_, h22_, h24, h25, h26, h26_, h25_, h27_, h27__, h28, h28_]; omega)) ?_
                  refine AW.exit ?_
                  try simp
                  refine hK410 _ _ _ ?_
                  refine AW.seqR mixed [] [none, none, none, none, none, none, some (146, true), none, none] (by kernel_rfl) fun G452 R452 hG452 hR452 => ?_
                  try simp [h1, h1_, h10, h10_, h10__, h16_, h16__, h16q, h17_, h17__, h17q, h19, h19_, h20_, h20__, h20q, h21, h22, h23, h23_, h22_, h24, h25, h26, h26_, h25_, h27_, h27__, h28, h28_]
                  repeat' apply And.intro
                  try any_goals (first | omega | (unfold maxLen; omega) | (simp [h1, h1_, h10, h10_, h10__, h16_, h16__, h16q, h17_, h17__, h17q, h19, h19_, h20_, h20__, h20q, h21, h22, h23, h23_, h22_, h24, h25, h26, h26_, h25_, h27_, h27__, h28, h28_]; done))
                  obtain ⟨v26, h42, hF⟩ := bnd1_elim hF
                  refine aCall_l (w_roster_Join k _ _ _ h42) (by simp) [] [] [] rfl (.cons (.same (by simp [h1, h1_, h10, h10_, h10__, h16_, h16__, h16q, h17_, h17__, h17q, h19, h19_, h20_, h20__, h20q, h21, h22, h23, h23_, h22_, h24, h25, h26, h26_, h25_, h27_, h27__, h28, h28_])) (.cons (.same (by simp [h1, h1_, h10, h10_, h10__, h16_, h16__, h16q, h17_, h17__, h17q, h19, h19_, h20_, h20__, h20q, h21, h22, h23, h23_, h22_, h24, h25, h26, h26_, h25_, h27_, h27__, h28, h28_])) .nil)) (by simp [h1, h1_, h10, h10_, h10__, h16_, h16__, h16q, h17_, h17__, h17q, h19, h19_, h20_, h20__, h20q, h21, h22, h23, h23_, h22_, h24, h25, h26, h26_, h25_, h27_, h27__, h28, h28_]) (by decide) (by simp) (by simp) (.inl rfl) (by simp) (by simp) ?_
                  try simp [h1, h1_, h10, h10_, h10__, h16_, h16__, h16q, h17_, h17__, h17q, h19, h19_, h20_, h20__, h20q, h21, h22, h23, h23_, h22_, h24, h25, h26, h26_, h25_, h27_, h27__, h28, h28_]
                  repeat' apply And.intro
                  try any_goals (first | omega | (unfold maxLen; omega) | (simp [h1, h1_, h10, h10_, h10__, h16_, h16__, h16q, h17_, h17__, h17q, h19, h19_, h20_, h20__, h20q, h21, h22, h23, h23_, h22_, h24, h25, h26, h26_, h25_, h27_, h27__, h28, h28_]; done))
                  obtain ⟨v27, h43, hF⟩ := bnd1_elim hF
                  refine aCall_l (w_ref23_SameInts k _ _ _ h43) (by simp) [] [0] [] rfl (.cons (Coe.l (o := .grow (List.map (AV.int .i64) v26)) (by simp [h1, h1_, h10, h10_, h10__, h16_, h16__, h16q, h17_, h17__, h17q, h19, h19_, h20_, h20__, h20q, h21, h22, h23, h23_, h22_, h24, h25, h26, h26_, h25_, h27_, h27__, h28, h28_]) rfl (by simp [h1, h1_, h10, h10_, h10__, h16_, h16__, h16q, h17_, h17__, h17q, h19, h19_, h20_, h20__, h20q, h21, h22, h23, h23_, h22_, h24, h25, h26, h26_, h25_, h27_, h27__, h28, h28_]) (by simp [noIdsL]) (by simp [h1, h1_, h10, h10_, h10__, h16_, h16__, h16q, h17_, h17__, h17q, h19, h19_, h20_, h20__, h20q, h21, h22, h23, h23_, h22_, h24, h25, h26, h26_, h25_, h27_, h27__, h28, h28_]) (by simp [h1, h1_, h10, h10_, h10__, h16_, h16__, h16q, h17_, h17__, h17q, h19, h19_, h20_, h20__, h20q, h21, h22, h23, h23_, h22_, h24, h25, h26, h26_, h25_, h27_, h27__, h28, h28_])) (.cons (.same (by simp [h1, h1_, h10, h10_, h10__, h16_, h16__, h16q, h17_, h17__, h17q, h19, h19_, h20_, h20__, h20q, h21, h22, h23, h23_, h22_, h24, h25, h26, h26_, h25_, h27_, h27__, h28, h28_])) .nil)) (by simp [h1, h1_, h10, h10_, h10__, h16_, h16__, h16q, h17_, h17__, h17q, h19, h19_, h20_, h20__, h20q, h21, h22, h23, h23_, h22_, h24, h25, h26, h26_, h25_, h27_, h27__, h28, h28_]) (by decide) (by simp) (by simp) (.inr ⟨by simp, by simp⟩) (by simp) (by simp) ?_
                  by_cases h44 : v27 = true
                  · replace hF := ite_t h44 hF
                    have h44_ := h44
                    try simp at h44_
                    try simp [h1, h1_, h10, h10_, h10__, h16_, h16__, h16q, h17_, h17__, h17q, h19, h19_, h20_, h20__, h20q, h21, h22, h23, h23_, h22_, h24, h25, h26, h26_, h25_, h27_, h27__, h28, h28_, h44, h44_]
                    repeat' apply And.intro
                    try any_goals (first | omega | (unfold maxLen; omega) | (simp [h1, h1_, h10, h10_, h10__, h16_, h16__, h16q, h17_, h17__, h17q, h19, h19_, h20_, h20__, h20q, h21, h22, h23, h23_, h22_, h24, h25, h26, h26_, h25_, h27_, h27__, h28, h28_, h44, h44_]; done))
                    obtain ⟨v28, h45, hF⟩ := bnd1_elim hF
                    refine aCall_l (w_law24_awake k _ h45) (by simp) [] [] [] rfl .nil (by simp [h1, h1_, h10, h10_, h10__, h16_, h16__, h16q, h17_, h17__, h17q, h19, h19_, h20_, h20__, h20q, h21, h22, h23, h23_, h22_, h24, h25, h26, h26_, h25_, h27_, h27__, h28, h28_, h44, h44_]) (by decide) (by simp) (by simp) (.inl rfl) (by simp) (by simp) ?_
                    try simp [h1, h1_, h10, h10_, h10__, h16_, h16__, h16q, h17_, h17__, h17q, h19, h19_, h20_, h20__, h20q, h21, h22, h23, h23_, h22_, h24, h25, h26, h26_, h25_, h27_, h27__, h28, h28_, h44, h44_]
                    repeat' apply And.intro
                    any_goals (first | exact hG452 _ (by kernel_rfl) | refine hR452 _ _ _ ?_ | omega | (unfold maxLen; omega) | (simp [h1, h1_, h10, h10_, h10__, h16_, h16__, h16q, h17_, h17__, h17q, h19, h19_, h20_, h20__, h20q, h21, h22, h23, h23_, h22_, h24, h25, h26, h26_, h25_, h27_, h27__, h28, h28_, h44, h44_]; done) | (simp [h1, h1_, h10, h10_, h10__, h16_, h16__, h16q, h17_, h17__, h17q, h19, h19_, h20_, h20__, h20q, h21, h22, h23, h23_, h22_, h24, h25, h26, h26_, h25_, h27_, h27__, h28, h28_, h44, h44_]; omega))
                    refine AW.wk [(4, AV.bool v28)] [] 1 (by simp [h1, h1_, h10, h10_, h10__, h16_, h16__, h16q, h17_, h17__, h17q, h19, h19_, h20_, h20__, h20q, h21, h22, h23, h23_, h22_, h24, h25, h26, h26_, h25_, h27_, h27__, h28, h28_, h44, h44_]) (by simp [h1, h1_, h10, h10_, h10__, h16_, h16__, h16q, h17_, h17__, h17q, h19, h19_, h20_, h20__, h20q, h21, h22, h23, h23_, h22_, h24, h25, h26, h26_, h25_, h27_, h27__, h28, h28_, h44, h44_]) (by simp) ?_
                    simp only [Option.some.injEq] at hF
                    subst hF
                    refine AW.ret (hQ _ _ _ ?_ (matchO_0 ?_)).1
                    · simp [Try.f17, h1, h1_, h10, h10_, h10__, h16_, h16__, h16q, h17_, h17__, h17q, h19, h19_, h20_, h20__, h20q, h21, h22, h23, h23_, h22_, h24, h25, h26, h26_, h25_, h27_, h27__, h28, h28_, h44, h44_]
                    · simp [h1, h1_, h10, h10_, h10__, h16_, h16__, h16q, h17_, h17__, h17q, h19, h19_, h20_, h20__, h20q, h21, h22, h23, h23_, h22_, h24, h25, h26, h26_, h25_, h27_, h27__, h28, h28_, h44, h44_]
                  · replace hF := ite_f h44 hF
                    have h44_ := h44
                    try simp at h44_
                    try simp [h1, h1_, h10, h10_, h10__, h16_, h16__, h16q, h17_, h17__, h17q, h19, h19_, h20_, h20__, h20q, h21, h22, h23, h23_, h22_, h24, h25, h26, h26_, h25_, h27_, h27__, h28, h28_, h44, h44_]
                    repeat' apply And.intro
                    any_goals (first | exact hG452 _ (by kernel_rfl) | refine hR452 _ _ _ ?_ | omega | (unfold maxLen; omega) | (simp [h1, h1_, h10, h10_, h10__, h16_, h16__, h16q, h17_, h17__, h17q, h19, h19_, h20_, h20__, h20q, h21, h22, h23, h23_, h22_, h24, h25, h26, h26_, h25_, h27_, h27__, h28, h28_, h44, h44_]; done) | (simp [h1, h1_, h10, h10_, h10__, h16_, h16__, h16q, h17_, h17__, h17q, h19, h19_, h20_, h20__, h20q, h21, h22, h23, h23_, h22_, h24, h25, h26, h26_, h25_, h27_, h27__, h28, h28_, h44, h44_]; omega))
                    refine AW.wk [(4, AV.bool false)] [] 1 (by simp [h1, h1_, h10, h10_, h10__, h16_, h16__, h16q, h17_, h17__, h17q, h19, h19_, h20_, h20__, h20q, h21, h22, h23, h23_, h22_, h24, h25, h26, h26_, h25_, h27_, h27__, h28, h28_, h44, h44_]) (by simp [h1, h1_, h10, h10_, h10__, h16_, h16__, h16q, h17_, h17__, h17q, h19, h19_, h20_, h20__, h20q, h21, h22, h23, h23_, h22_, h24, h25, h26, h26_, h25_, h27_, h27__, h28, h28_, h44, h44_]) (by simp) ?_
                    simp only [Option.some.injEq] at hF
                    subst hF
                    refine AW.ret (hQ _ _ _ ?_ (matchO_0 ?_)).1
                    · simp [Try.f17, h1, h1_, h10, h10_, h10__, h16_, h16__, h16q, h17_, h17__, h17q, h19, h19_, h20_, h20__, h20q, h21, h22, h23, h23_, h22_, h24, h25, h26, h26_, h25_, h27_, h27__, h28, h28_, h44, h44_]
                    · simp [h1, h1_, h10, h10_, h10__, h16_, h16__, h16q, h17_, h17__, h17q, h19, h19_, h20_, h20__, h20q, h21, h22, h23, h23_, h22_, h24, h25, h26, h26_, h25_, h27_, h27__, h28, h28_, h44, h44_]
end Go.TF
