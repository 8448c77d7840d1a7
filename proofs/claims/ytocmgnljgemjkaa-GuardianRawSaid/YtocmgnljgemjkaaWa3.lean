/- Walks: the Go text computes the Lean functions (printed by a program of our own). -/
import Derived.Test.YtocmgnljgemjkaaPu
import Derived.Test.YtocmgnljgemjkaaAbsT
import Derived.Test.YtocmgnljgemjkaaWa0
import Derived.Test.YtocmgnljgemjkaaWa1
import Derived.Test.YtocmgnljgemjkaaWa2
set_option linter.unusedVariables false
set_option linter.unusedSimpArgs false
set_option maxRecDepth 100000
namespace Go.TF
open Go Go.Abs Go.Proofs Go.Proofs.YtocmgnljgemjkaaT
set_option maxHeartbeats 4000000 in
theorem w_law34_GuardianNeed (k : Nat) (v0 : (List Int)) (v1 : Bool) (hF : law34_GuardianNeed k v0 = some v1) :
    FCall Try.prog 3 [AV.lst false false (List.map (AV.int .i64) v0)] [] (AV.bool v1) [] := by
  unfold law34_GuardianNeed at hF
  refine FCall.enter Try.func3 rfl (by simp) (by decide) (by simp) (by simp) (by simp) (by simp) (by simp) ?_
  intro c0 w0 Q h0 hQ
  refine AW.wk [(0, AV.lst false false (List.map (AV.int .i64) v0))] [] 0 (by simp) (by simp) (by simp) ?_
  refine AW.seqR mixed [] [none] (by kernel_rfl) fun G825 R825 hG825 hR825 => ?_
  try simp
  repeat' apply And.intro
  any_goals (first | exact hG825 _ (by kernel_rfl) | refine hR825 _ _ _ ?_ | omega | (unfold maxLen; omega) | (simp; done) | (simp; omega))
  refine AW.wk [(0, AV.lst false false (List.map (AV.int .i64) v0))] [] 0 (by simp) (by simp) (by simp) ?_
  refine AW.seq fun K828 hK828 => ?_
  refine AW.seqR mixed [] [none, none, none] (by kernel_rfl) fun G829 R829 hG829 hR829 => ?_
  try simp
  repeat' apply And.intro
  try any_goals (first | omega | (unfold maxLen; omega) | (simp; done))
  obtain ⟨v2, h1, hF⟩ := bnd1_elim hF
  refine aCall_l (w_mill_Light k _ _ h1) (by simp) [] [] [] rfl (.cons (.same (by simp)) .nil) (by simp) (by decide) (by simp) (by simp) (.inl rfl) (by simp) (by simp) ?_
  try simp
  repeat' apply And.intro
  any_goals (first | exact hG829 _ (by kernel_rfl) | refine hR829 _ _ _ ?_ | omega | (unfold maxLen; omega) | (simp; done) | (simp; omega))
  refine AW.wk [(0, AV.lst false false (List.map (AV.int .i64) v0)), (10, AV.bool (!v2))] [] 0 (by simp) (by simp) (by simp) ?_
  by_cases h2 : (!v2) = true
  · replace hF := ite_t h2 hF
    have h2_ := h2
    try simp at h2_
    refine AW.condT (by decide) (by first | (simp [h2, h2_]; done) | (simp [h2, h2_]; omega)) ?_
    refine AW.seqR mixed [] [none, none] (by kernel_rfl) fun G830 R830 hG830 hR830 => ?_
    try simp [h2, h2_]
    repeat' apply And.intro
    try any_goals (first | omega | (unfold maxLen; omega) | (simp [h2, h2_]; done))
    obtain ⟨v3, h3, hF⟩ := bnd1_elim hF
    refine aCall_l (w_law34_awake k _ h3) (by simp) [] [] [] rfl .nil (by simp [h2, h2_]) (by decide) (by simp) (by simp) (.inl rfl) (by simp) (by simp) ?_
    try simp [h2, h2_]
    repeat' apply And.intro
    any_goals (first | exact hG830 _ (by kernel_rfl) | refine hR830 _ _ _ ?_ | omega | (unfold maxLen; omega) | (simp [h2, h2_]; done) | (simp [h2, h2_]; omega))
    refine AW.wk [(2, AV.bool v3)] [] 0 (by simp [h2, h2_]) (by simp [h2, h2_]) (by simp) ?_
    simp only [Option.some.injEq] at hF
    subst hF
    refine AW.ret (hQ _ _ _ ?_ (matchO_0 ?_)).1
    · simp [Try.f3, h2, h2_]
    · simp [h2, h2_]
  · replace hF := ite_f h2 hF
    have h2_ := h2
    try simp at h2_
    refine AW.condF (by decide) (by first | (simp [h2, h2_]; done) | (simp [h2, h2_]; omega)) ?_
    refine AW.skip ?_
    refine hK828 _ _ _ ?_
    refine AW.seqR mixed [] [none, none, none] (by kernel_rfl) fun G831 R831 hG831 hR831 => ?_
    try simp [h2, h2_]
    repeat' apply And.intro
    try any_goals (first | omega | (unfold maxLen; omega) | (simp [h2, h2_]; done))
    obtain ⟨v4, v5, h4, hF⟩ := bnd2_elim hF
    refine aCall_l (w_mill_Roll k _ _ _ h4) (by simp) [] [] [] rfl (.cons (.same (by simp [h2, h2_])) .nil) (by simp [h2, h2_]) (by decide) (by simp) (by simp) (.inl rfl) (by simp) (by simp) ?_
    try simp [h2, h2_]
    repeat' apply And.intro
    any_goals (first | exact hG831 _ (by kernel_rfl) | refine hR831 _ _ _ ?_ | omega | (unfold maxLen; omega) | (simp [h2, h2_]; done) | (simp [h2, h2_]; omega))
    refine AW.wk [(3, AV.ptr 0 0)] [(0, .cells [AV.lst false false (List.map (AV.int .i64) v4), AV.int .i64 v5])] 1 (by simp [h2, h2_]) (by simp [h2, h2_]) (by simp) ?_
    refine AW.seqR mixed [] [none, none, none, none, none] (by kernel_rfl) fun G832 R832 hG832 hR832 => ?_
    try simp [h2, h2_]
    repeat' apply And.intro
    try any_goals (first | omega | (unfold maxLen; omega) | (simp [h2, h2_]; done))
    obtain ⟨v6, v7, h5, hF⟩ := bnd2_elim hF
    refine aCall_l (w_mill_Keys k _ _ _ _ _ h5) (by simp) [0] [] [0] rfl (.cons (.same (by simp [h2, h2_])) (.cons (.same (by simp [h2, h2_])) .nil)) (by simp [h2, h2_]) (by decide) (by simp) (by simp) (.inl rfl) (by simp) (by simp) ?_
    try simp [h2, h2_]
    repeat' apply And.intro
    any_goals (first | exact hG832 _ (by kernel_rfl) | refine hR832 _ _ _ ?_ | omega | (unfold maxLen; omega) | (simp [h2, h2_]; done) | (simp [h2, h2_]; omega))
    refine AW.wk [(3, AV.ptr 0 0), (4, AV.ptr 1 0)] [(0, .cells [AV.lst false false (List.map (AV.int .i64) v4), AV.int .i64 v7]), (1, .cells [AV.int .i64 20, AV.int .i64 0, AV.lst false false (List.map (AV.int .i64) v6)])] 2 (by simp [h2, h2_]) (by simp [h2, h2_]) (by simp) ?_
    refine AW.seq fun K1240 hK1240 => ?_
    refine AW.seqR mixed [] [none, none] (by kernel_rfl) fun G1241 R1241 hG1241 hR1241 => ?_
    try simp [h2, h2_]
    repeat' apply And.intro
    any_goals (first | exact hG1241 _ (by kernel_rfl) | refine hR1241 _ _ _ ?_ | omega | (unfold maxLen; omega) | (simp [h2, h2_]; done) | (simp [h2, h2_]; omega))
    refine AW.wk [(3, AV.ptr 0 0), (4, AV.ptr 1 0)] [(0, .cells [AV.lst false false (List.map (AV.int .i64) v4), AV.int .i64 v7]), (1, .cells [AV.int .i64 20, AV.int .i64 1, AV.lst false false (List.map (AV.int .i64) v6)])] 2 (by simp [h2, h2_]) (by simp [h2, h2_]) (by simp) ?_
    refine AW.block ?_
    refine AW.loopF (α := (Int × Int)) (fun n (v8, v9) => law34_GuardianNeed.L1 k v4 v6 n v8 v9 = some v1) (fun (v8, v9) => [(3, AV.ptr 0 0), (4, AV.ptr 1 0)]) (fun (v8, v9) => [(0, .cells [AV.lst false false (List.map (AV.int .i64) v4), AV.int .i64 v8]), (1, .cells [AV.int .i64 20, AV.int .i64 v9, AV.lst false false (List.map (AV.int .i64) v6)])]) 2 k ((v7, 1)) hF (by simp [h2, h2_]) (by simp [h2, h2_]) (by simp) ?_
    rintro (_|n1) ⟨v8, v9⟩ hF K1512 hK1512
    · try dsimp only at hF
      rw [law34_GuardianNeed.L1] at hF; cases hF
    try dsimp only at hF
    rw [law34_GuardianNeed.L1] at hF
    refine AW.seq fun K1514 hK1514 => ?_
    refine AW.seqR mixed [] [none, none, none, none, none, none] (by kernel_rfl) fun G1515 R1515 hG1515 hR1515 => ?_
    try simp [h2, h2_]
    repeat' apply And.intro
    any_goals (first | exact hG1515 _ (by kernel_rfl) | refine hR1515 _ _ _ ?_ | omega | (unfold maxLen; omega) | (simp [h2, h2_]; done) | (simp [h2, h2_]; omega))
    refine AW.wk [(3, AV.ptr 0 0), (4, AV.ptr 1 0), (23, AV.bool (decide (v9 ≤ (v6.length : Int))))] [(0, .cells [AV.lst false false (List.map (AV.int .i64) v4), AV.int .i64 v8]), (1, .cells [AV.int .i64 20, AV.int .i64 v9, AV.lst false false (List.map (AV.int .i64) v6)])] 2 (by simp [h2, h2_]) (by simp [h2, h2_]) (by simp) ?_
    by_cases h6 : v9 ≤ (v6.length : Int)
    · replace hF := ite_t h6 hF
      have h6_ := h6
      try simp at h6_
      refine AW.condT (by decide) (by first | (simp [h2, h2_, h6, h6_]; done) | (simp [h2, h2_, h6, h6_]; omega)) ?_
      refine AW.skip ?_
      refine hK1514 _ _ _ ?_
      refine AW.seq fun K1581 hK1581 => ?_
      refine AW.block ?_
      refine AW.seqR mixed [] [none, none, none] (by kernel_rfl) fun G1582 R1582 hG1582 hR1582 => ?_
      try simp [h2, h2_, h6, h6_]
      repeat' apply And.intro
      try any_goals (first | omega | (unfold maxLen; omega) | (simp [h2, h2_, h6, h6_]; done))
      obtain ⟨v10, v11, h7, hF⟩ := bnd2_elim hF
      refine aCall_l (w_made_Dice_Some k _ _ _ _ _ h7) (by simp) [0] [] [0] rfl (.cons (.same (by simp [h2, h2_, h6, h6_])) (.cons (.same (by simp [h2, h2_, h6, h6_])) .nil)) (by simp [h2, h2_, h6, h6_]) (by decide) (by simp) (by simp) (.inl rfl) (by simp) (by simp) ?_
      try simp [h2, h2_, h6, h6_]
      repeat' apply And.intro
      any_goals (first | exact hG1582 _ (by kernel_rfl) | refine hR1582 _ _ _ ?_ | omega | (unfold maxLen; omega) | (simp [h2, h2_, h6, h6_]; done) | (simp [h2, h2_, h6, h6_]; omega))
      refine AW.wk [(3, AV.ptr 0 0), (4, AV.ptr 1 0), (5, AV.slc 2 0 1 v10.length false)] [(0, .cells [AV.lst false false (List.map (AV.int .i64) v4), AV.int .i64 v11]), (1, .cells [AV.int .i64 20, AV.int .i64 v9, AV.lst false false (List.map (AV.int .i64) v6)]), (2, .grow (List.map (AV.int .i64) v10))] 3 (by simp [h2, h2_, h6, h6_]) (by simp [h2, h2_, h6, h6_]) (by simp) ?_
      refine AW.seqR mixed [] [none] (by kernel_rfl) fun G1583 R1583 hG1583 hR1583 => ?_
      try simp [h2, h2_, h6, h6_]
      repeat' apply And.intro
      any_goals (first | exact hG1583 _ (by kernel_rfl) | refine hR1583 _ _ _ ?_ | omega | (unfold maxLen; omega) | (simp [h2, h2_, h6, h6_]; done) | (simp [h2, h2_, h6, h6_]; omega))
      refine AW.wk [(3, AV.ptr 0 0), (4, AV.ptr 1 0), (5, AV.slc 2 0 1 v10.length false), (6, AV.int .i64 0)] [(0, .cells [AV.lst false false (List.map (AV.int .i64) v4), AV.int .i64 v11]), (1, .cells [AV.int .i64 20, AV.int .i64 v9, AV.lst false false (List.map (AV.int .i64) v6)]), (2, .grow (List.map (AV.int .i64) v10))] 3 (by simp [h2, h2_, h6, h6_]) (by simp [h2, h2_, h6, h6_]) (by simp) ?_
      refine AW.seq fun K1613 hK1613 => ?_
      refine AW.seqR mixed [] [none] (by kernel_rfl) fun G1614 R1614 hG1614 hR1614 => ?_
      try simp [h2, h2_, h6, h6_]
      repeat' apply And.intro
      any_goals (first | exact hG1614 _ (by kernel_rfl) | refine hR1614 _ _ _ ?_ | omega | (unfold maxLen; omega) | (simp [h2, h2_, h6, h6_]; done) | (simp [h2, h2_, h6, h6_]; omega))
      refine AW.wk [(3, AV.ptr 0 0), (4, AV.ptr 1 0), (5, AV.slc 2 0 1 v10.length false), (6, AV.int .i64 0), (7, AV.int .i64 0)] [(0, .cells [AV.lst false false (List.map (AV.int .i64) v4), AV.int .i64 v11]), (1, .cells [AV.int .i64 20, AV.int .i64 v9, AV.lst false false (List.map (AV.int .i64) v6)]), (2, .grow (List.map (AV.int .i64) v10))] 3 (by simp [h2, h2_, h6, h6_]) (by simp [h2, h2_, h6, h6_]) (by simp) ?_
      refine AW.block ?_
      refine AW.loopF (α := (Int × Int)) (fun n (v12, v13) => law34_GuardianNeed.L2 k v6 v9 v10 v11 (fun v8_ v9_ => law34_GuardianNeed.L1 k v4 v6 n1 v8_ v9_) n v12 v13 = some v1) (fun (v12, v13) => [(3, AV.ptr 0 0), (4, AV.ptr 1 0), (5, AV.slc 2 0 1 v10.length false), (6, AV.int .i64 v12), (7, AV.int .i64 v13)]) (fun (v12, v13) => [(0, .cells [AV.lst false false (List.map (AV.int .i64) v4), AV.int .i64 v11]), (1, .cells [AV.int .i64 20, AV.int .i64 v9, AV.lst false false (List.map (AV.int .i64) v6)]), (2, .grow (List.map (AV.int .i64) v10))]) 3 k ((0, 0)) hF (by simp [h2, h2_, h6, h6_]) (by simp [h2, h2_, h6, h6_]) (by simp) ?_
      rintro (_|n2) ⟨v12, v13⟩ hF K1633 hK1633
      · try dsimp only at hF
        rw [law34_GuardianNeed.L2] at hF; cases hF
      try dsimp only at hF
      rw [law34_GuardianNeed.L2] at hF
      refine AW.seq fun K1635 hK1635 => ?_
      refine AW.seqR mixed [] [none, none, none, none] (by kernel_rfl) fun G1636 R1636 hG1636 hR1636 => ?_
      try simp [h2, h2_, h6, h6_]
      repeat' apply And.intro
      any_goals (first | exact hG1636 _ (by kernel_rfl) | refine hR1636 _ _ _ ?_ | omega | (unfold maxLen; omega) | (simp [h2, h2_, h6, h6_]; done) | (simp [h2, h2_, h6, h6_]; omega))
      refine AW.wk [(3, AV.ptr 0 0), (4, AV.ptr 1 0), (5, AV.slc 2 0 1 v10.length false), (6, AV.int .i64 v12), (7, AV.int .i64 v13), (33, AV.bool (decide (v13 < (v10.length : Int))))] [(0, .cells [AV.lst false false (List.map (AV.int .i64) v4), AV.int .i64 v11]), (1, .cells [AV.int .i64 20, AV.int .i64 v9, AV.lst false false (List.map (AV.int .i64) v6)]), (2, .grow (List.map (AV.int .i64) v10))] 3 (by simp [h2, h2_, h6, h6_]) (by simp [h2, h2_, h6, h6_]) (by simp) ?_
      by_cases h8 : v13 < (v10.length : Int)
      · replace hF := ite_t h8 hF
        have h8_ := h8
        try simp at h8_
        refine AW.condT (by decide) (by first | (simp [h2, h2_, h6, h6_, h8, h8_]; done) | (simp [h2, h2_, h6, h6_, h8, h8_]; omega)) ?_
        refine AW.skip ?_
        refine hK1635 _ _ _ ?_
        refine AW.midF (α := Int) (fun v14 => law34_GuardianNeed.J3 k v13 (fun v12_ v13_ => law34_GuardianNeed.L2 k v6 v9 v10 v11 (fun v8_ v9_ => law34_GuardianNeed.L1 k v4 v6 n1 v8_ v9_) n2 v12_ v13_) v14 = some v1) (fun v14 => [(3, AV.ptr 0 0), (4, AV.ptr 1 0), (5, AV.slc 2 0 1 v10.length false), (6, AV.int .i64 v14), (7, AV.int .i64 v13)]) (fun v14 => [(0, .cells [AV.lst false false (List.map (AV.int .i64) v4), AV.int .i64 v11]), (1, .cells [AV.int .i64 20, AV.int .i64 v9, AV.lst false false (List.map (AV.int .i64) v6)]), (2, .grow (List.map (AV.int .i64) v10))]) 3 (fun K1640 hK1640 => ?_) ?_
        · refine AW.block ?_
          refine AW.seqR mixed [] [none, none, none, none, none, none, none] (by kernel_rfl) fun G1641 R1641 hG1641 hR1641 => ?_
          obtain ⟨⟨h9, h10⟩, hF⟩ := chk_elim hF
          have h10_ := ne_of_lt h10
          obtain ⟨v15, h11, h12, h13, hF⟩ := idx_elim hF
          have h13_ := get_of h13
          try simp at h13_
          have h12_ := h12
          try simp at h12_
          try simp [h2, h2_, h6, h6_, h8, h8_, h9, h10, h10_, h11, h12, h13, h13_, h12_]
          repeat' apply And.intro
          try any_goals (first | omega | (unfold maxLen; omega) | (simp [h2, h2_, h6, h6_, h8, h8_, h9, h10, h10_, h11, h12, h13, h13_, h12_]; done))
          obtain ⟨v16, h14, hF⟩ := bnd1_elim hF
          refine aCall_l (w_ref24_Has k _ _ _ h14) (by simp) [] [] [] rfl (.cons (.same (by simp [h2, h2_, h6, h6_, h8, h8_, h9, h10, h10_, h11, h12, h13, h13_, h12_])) (.cons (.same (by simp [h2, h2_, h6, h6_, h8, h8_, h9, h10, h10_, h11, h12, h13, h13_, h12_])) .nil)) (by simp [h2, h2_, h6, h6_, h8, h8_, h9, h10, h10_, h11, h12, h13, h13_, h12_]) (by decide) (by simp) (by simp) (.inl rfl) (by simp) (by simp) ?_
          try simp [h2, h2_, h6, h6_, h8, h8_, h9, h10, h10_, h11, h12, h13, h13_, h12_]
          repeat' apply And.intro
          any_goals (first | exact hG1641 _ (by kernel_rfl) | refine hR1641 _ _ _ ?_ | omega | (unfold maxLen; omega) | (simp [h2, h2_, h6, h6_, h8, h8_, h9, h10, h10_, h11, h12, h13, h13_, h12_]; done) | (simp [h2, h2_, h6, h6_, h8, h8_, h9, h10, h10_, h11, h12, h13, h13_, h12_]; omega))
          refine AW.wk [(3, AV.ptr 0 0), (4, AV.ptr 1 0), (5, AV.slc 2 0 1 v10.length false), (6, AV.int .i64 v12), (7, AV.int .i64 v13), (42, AV.bool v16)] [(0, .cells [AV.lst false false (List.map (AV.int .i64) v4), AV.int .i64 v11]), (1, .cells [AV.int .i64 20, AV.int .i64 v9, AV.lst false false (List.map (AV.int .i64) v6)]), (2, .grow (List.map (AV.int .i64) v10))] 3 (by simp [h2, h2_, h6, h6_, h8, h8_, h9, h10, h10_, h11, h12, h13, h13_, h12_]) (by simp [h2, h2_, h6, h6_, h8, h8_, h9, h10, h10_, h11, h12, h13, h13_, h12_]) (by simp) ?_
          by_cases h15 : v16 = true
          · replace hF := ite_t h15 hF
            have h15_ := h15
            try simp at h15_
            refine AW.condT (by decide) (by first | (simp [h2, h2_, h6, h6_, h8, h8_, h9, h10, h10_, h11, h12, h13, h13_, h12_, h15, h15_]; done) | (simp [h2, h2_, h6, h6_, h8, h8_, h9, h10, h10_, h11, h12, h13, h13_, h12_, h15, h15_]; omega)) ?_
            refine AW.region mixed [] [none, none, none] (by kernel_rfl) fun G1642 R1642 hG1642 hR1642 => ?_
            try simp [h2, h2_, h6, h6_, h8, h8_, h9, h10, h10_, h11, h12, h13, h13_, h12_, h15, h15_]
            repeat' apply And.intro
            any_goals (first | exact hG1642 _ (by kernel_rfl) | refine hR1642 _ _ _ ?_ | omega | (unfold maxLen; omega) | (simp [h2, h2_, h6, h6_, h8, h8_, h9, h10, h10_, h11, h12, h13, h13_, h12_, h15, h15_]; done) | (simp [h2, h2_, h6, h6_, h8, h8_, h9, h10, h10_, h11, h12, h13, h13_, h12_, h15, h15_]; omega))
            refine hK1640 _ _ _ ?_
            refine Can.weak [(3, AV.ptr 0 0), (4, AV.ptr 1 0), (5, AV.slc 2 0 1 v10.length false), (6, AV.int .i64 (IntKind.wrap .i64 (v12 + 1))), (7, AV.int .i64 v13)] [(0, .cells [AV.lst false false (List.map (AV.int .i64) v4), AV.int .i64 v11]), (1, .cells [AV.int .i64 20, AV.int .i64 v9, AV.lst false false (List.map (AV.int .i64) v6)]), (2, .grow (List.map (AV.int .i64) v10))] 3 (by simp [h2, h2_, h6, h6_, h8, h8_, h9, h10, h10_, h11, h12, h13, h13_, h12_, h15, h15_]) (by simp [h2, h2_, h6, h6_, h8, h8_, h9, h10, h10_, h11, h12, h13, h13_, h12_, h15, h15_]) (by simp) ?_
            exact Can.join (IntKind.wrap .i64 (v12 + 1)) hF (by simp [h2, h2_, h6, h6_, h8, h8_, h9, h10, h10_, h11, h12, h13, h13_, h12_, h15, h15_]) (by simp [h2, h2_, h6, h6_, h8, h8_, h9, h10, h10_, h11, h12, h13, h13_, h12_, h15, h15_]) (by simp)
          · replace hF := ite_f h15 hF
            have h15_ := h15
            try simp at h15_
            refine AW.condF (by decide) (by first | (simp [h2, h2_, h6, h6_, h8, h8_, h9, h10, h10_, h11, h12, h13, h13_, h12_, h15, h15_]; done) | (simp [h2, h2_, h6, h6_, h8, h8_, h9, h10, h10_, h11, h12, h13, h13_, h12_, h15, h15_]; omega)) ?_
            refine AW.skip ?_
            refine hK1640 _ _ _ ?_
            exact Can.join (v12) hF (by simp [h2, h2_, h6, h6_, h8, h8_, h9, h10, h10_, h11, h12, h13, h13_, h12_, h15, h15_]) (by simp [h2, h2_, h6, h6_, h8, h8_, h9, h10, h10_, h11, h12, h13, h13_, h12_, h15, h15_]) (by simp)
        · rintro v14 hF
          try dsimp only at hF
          unfold law34_GuardianNeed.J3 at hF
          refine AW.region mixed [] [none, none, none] (by kernel_rfl) fun G1639 R1639 hG1639 hR1639 => ?_
          try simp [h2, h2_, h6, h6_, h8, h8_]
          repeat' apply And.intro
          any_goals (first | exact hG1639 _ (by kernel_rfl) | refine hR1639 _ _ _ ?_ | omega | (unfold maxLen; omega) | (simp [h2, h2_, h6, h6_, h8, h8_]; done) | (simp [h2, h2_, h6, h6_, h8, h8_]; omega))
          refine hK1633 _ _ _ ?_
          refine Can.weak [(3, AV.ptr 0 0), (4, AV.ptr 1 0), (5, AV.slc 2 0 1 v10.length false), (6, AV.int .i64 v14), (7, AV.int .i64 (IntKind.wrap .i64 (v13 + 1)))] [(0, .cells [AV.lst false false (List.map (AV.int .i64) v4), AV.int .i64 v11]), (1, .cells [AV.int .i64 20, AV.int .i64 v9, AV.lst false false (List.map (AV.int .i64) v6)]), (2, .grow (List.map (AV.int .i64) v10))] 3 (by simp [h2, h2_, h6, h6_, h8, h8_]) (by simp [h2, h2_, h6, h6_, h8, h8_]) (by simp) ?_
          exact Can.next (k' := n2) ((v14, IntKind.wrap .i64 (v13 + 1))) (by omega) hF (by simp [h2, h2_, h6, h6_, h8, h8_]) (by simp [h2, h2_, h6, h6_, h8, h8_]) (by simp)
      · replace hF := ite_f h8 hF
        have h8_ := h8
        try simp at h8_
        refine AW.condF (by decide) (by first | (simp [h2, h2_, h6, h6_, h8, h8_]; done) | (simp [h2, h2_, h6, h6_, h8, h8_]; omega)) ?_
        refine AW.exit ?_
        try simp
        refine hK1613 _ _ _ ?_
        refine AW.seqR mixed [] [none, none, none, none, some (48, false), some (48, false), some (48, false), some (48, false), some (48, false), some (48, false), some (48, false), some (48, false), none, none, some (58, false), some (58, false), some (58, false), some (58, false), some (58, false), some (58, false), some (58, false), some (58, false), some (58, false), some (58, false), none] (by kernel_rfl) fun G1643 R1643 hG1643 hR1643 => ?_
        try simp [h2, h2_, h6, h6_, h8, h8_]
        repeat' apply And.intro
        try any_goals (first | omega | (unfold maxLen; omega) | (simp [h2, h2_, h6, h6_, h8, h8_]; done))
        obtain ⟨v17, h16, hF⟩ := bnd1_elim hF
        refine aCall_l (w_guardian_Valid k _ _ _ _ h16) (by simp) [] [] [] rfl (.cons (.same (by simp [h2, h2_, h6, h6_, h8, h8_])) .nil) (by simp [h2, h2_, h6, h6_, h8, h8_]) (by decide) (by simp) (by simp) (.inl rfl) (by simp) (by simp) ?_
        by_cases h17 : (!v17) = true
        · replace hF := ite_t h17 hF
          have h17_ := h17
          try simp at h17_
          try simp [h2, h2_, h6, h6_, h8, h8_, h17, h17_]
          repeat' apply And.intro
          any_goals (first | exact hG1643 _ (by kernel_rfl) | refine hR1643 _ _ _ ?_ | omega | (unfold maxLen; omega) | (simp [h2, h2_, h6, h6_, h8, h8_, h17, h17_]; done) | (simp [h2, h2_, h6, h6_, h8, h8_, h17, h17_]; omega))
          refine AW.wk [(3, AV.ptr 0 0), (4, AV.ptr 1 0), (69, AV.bool true)] [(0, .cells [AV.lst false false (List.map (AV.int .i64) v4), AV.int .i64 v11]), (1, .cells [AV.int .i64 20, AV.int .i64 v9, AV.lst false false (List.map (AV.int .i64) v6)])] 3 (by simp [h2, h2_, h6, h6_, h8, h8_, h17, h17_]) (by simp [h2, h2_, h6, h6_, h8, h8_, h17, h17_]) (by simp) ?_
          refine AW.condT (by decide) (by simp [h2, h2_, h6, h6_, h8, h8_, h17, h17_]) ?_
          refine AW.seqR mixed [] [none] (by kernel_rfl) fun G1644 R1644 hG1644 hR1644 => ?_
          try simp [h2, h2_, h6, h6_, h8, h8_, h17, h17_]
          repeat' apply And.intro
          any_goals (first | exact hG1644 _ (by kernel_rfl) | refine hR1644 _ _ _ ?_ | omega | (unfold maxLen; omega) | (simp [h2, h2_, h6, h6_, h8, h8_, h17, h17_]; done) | (simp [h2, h2_, h6, h6_, h8, h8_, h17, h17_]; omega))
          refine AW.wk [(2, AV.bool false)] [] 3 (by simp [h2, h2_, h6, h6_, h8, h8_, h17, h17_]) (by simp [h2, h2_, h6, h6_, h8, h8_, h17, h17_]) (by simp) ?_
          simp only [Option.some.injEq] at hF
          subst hF
          refine AW.ret (hQ _ _ _ ?_ (matchO_0 ?_)).1
          · simp [Try.f3, h2, h2_, h6, h6_, h8, h8_, h17, h17_]
          · simp [h2, h2_, h6, h6_, h8, h8_, h17, h17_]
        · replace hF := ite_f h17 hF
          have h17_ := h17
          try simp at h17_
          try simp [h2, h2_, h6, h6_, h8, h8_, h17, h17_]
          repeat' apply And.intro
          try any_goals (first | omega | (unfold maxLen; omega) | (simp [h2, h2_, h6, h6_, h8, h8_, h17, h17_]; done))
          obtain ⟨v18, h18, hF⟩ := bnd1_elim hF
          refine aCall_l (w_guardian_Enough k _ _ _ _ _ h18) (by simp) [] [2] [] rfl (.cons (.same (by simp [h2, h2_, h6, h6_, h8, h8_, h17, h17_])) (.cons (Coe.l (o := .grow (List.map (AV.int .i64) v10)) (by simp [h2, h2_, h6, h6_, h8, h8_, h17, h17_]) rfl (by simp [h2, h2_, h6, h6_, h8, h8_, h17, h17_]) (by simp [noIdsL]) (by simp [h2, h2_, h6, h6_, h8, h8_, h17, h17_]) (by simp [h2, h2_, h6, h6_, h8, h8_, h17, h17_])) .nil)) (by simp [h2, h2_, h6, h6_, h8, h8_, h17, h17_]) (by decide) (by simp) (by simp) (.inr ⟨by simp, by simp⟩) (by simp) (by simp) ?_
          by_cases h19 : (v18 != (decide (v9 ≤ v12))) = true
          · replace hF := ite_t h19 hF
            have h19_ := h19
            try simp at h19_
            try simp [h2, h2_, h6, h6_, h8, h8_, h17, h17_, h19, h19_]
            repeat' apply And.intro
            any_goals (first | exact hG1643 _ (by kernel_rfl) | refine hR1643 _ _ _ ?_ | omega | (unfold maxLen; omega) | (simp [h2, h2_, h6, h6_, h8, h8_, h17, h17_, h19, h19_]; done) | (simp [h2, h2_, h6, h6_, h8, h8_, h17, h17_, h19, h19_]; omega))
            refine AW.wk [(3, AV.ptr 0 0), (4, AV.ptr 1 0), (69, AV.bool true)] [(0, .cells [AV.lst false false (List.map (AV.int .i64) v4), AV.int .i64 v11]), (1, .cells [AV.int .i64 20, AV.int .i64 v9, AV.lst false false (List.map (AV.int .i64) v6)])] 3 (by simp [h2, h2_, h6, h6_, h8, h8_, h17, h17_, h19, h19_]) (by simp [h2, h2_, h6, h6_, h8, h8_, h17, h17_, h19, h19_]) (by simp) ?_
            refine AW.condT (by decide) (by simp [h2, h2_, h6, h6_, h8, h8_, h17, h17_, h19, h19_]) ?_
            refine AW.seqR mixed [] [none] (by kernel_rfl) fun G1645 R1645 hG1645 hR1645 => ?_
            try simp [h2, h2_, h6, h6_, h8, h8_, h17, h17_, h19, h19_]
            repeat' apply And.intro
            any_goals (first | exact hG1645 _ (by kernel_rfl) | refine hR1645 _ _ _ ?_ | omega | (unfold maxLen; omega) | (simp [h2, h2_, h6, h6_, h8, h8_, h17, h17_, h19, h19_]; done) | (simp [h2, h2_, h6, h6_, h8, h8_, h17, h17_, h19, h19_]; omega))
            refine AW.wk [(2, AV.bool false)] [] 3 (by simp [h2, h2_, h6, h6_, h8, h8_, h17, h17_, h19, h19_]) (by simp [h2, h2_, h6, h6_, h8, h8_, h17, h17_, h19, h19_]) (by simp) ?_
            simp only [Option.some.injEq] at hF
            subst hF
            refine AW.ret (hQ _ _ _ ?_ (matchO_0 ?_)).1
            · simp [Try.f3, h2, h2_, h6, h6_, h8, h8_, h17, h17_, h19, h19_]
            · simp [h2, h2_, h6, h6_, h8, h8_, h17, h17_, h19, h19_]
          · replace hF := ite_f h19 hF
            have h19_ := h19
            try simp at h19_
            obtain ⟨h20, hF⟩ := chk_elim hF
            have h20_ := h20
            try simp at h20_
            try simp [h2, h2_, h6, h6_, h8, h8_, h17, h17_, h19, h19_, h20]
            repeat' apply And.intro
            try any_goals (first | omega | (unfold maxLen; omega) | (simp [h2, h2_, h6, h6_, h8, h8_, h17, h17_, h19, h19_, h20]; done))
            obtain ⟨v19, h21, hF⟩ := bnd1_elim hF
            refine aCall_l (w_guardian_Enough k _ _ _ _ _ h21) (by simp) [] [3] [] rfl (.cons (.same (by simp [h2, h2_, h6, h6_, h8, h8_, h17, h17_, h19, h19_, h20])) (.cons (Coe.l (o := .grow (List.map (AV.int .i64) (v10 ++ v10))) (by simp [h2, h2_, h6, h6_, h8, h8_, h17, h17_, h19, h19_, h20]) rfl (by simp [h2, h2_, h6, h6_, h8, h8_, h17, h17_, h19, h19_, h20]) (by simp [noIdsL]) (by simp [h2, h2_, h6, h6_, h8, h8_, h17, h17_, h19, h19_, h20]) (by simp [h2, h2_, h6, h6_, h8, h8_, h17, h17_, h19, h19_, h20])) .nil)) (by simp [h2, h2_, h6, h6_, h8, h8_, h17, h17_, h19, h19_, h20]) (by decide) (by simp) (by simp) (.inr ⟨by simp, by simp⟩) (by simp) (by simp) ?_
            try simp [h2, h2_, h6, h6_, h8, h8_, h17, h17_, h19, h19_, h20]
            repeat' apply And.intro
            any_goals (first | exact hG1643 _ (by kernel_rfl) | refine hR1643 _ _ _ ?_ | omega | (unfold maxLen; omega) | (simp [h2, h2_, h6, h6_, h8, h8_, h17, h17_, h19, h19_, h20]; done) | (simp [h2, h2_, h6, h6_, h8, h8_, h17, h17_, h19, h19_, h20]; omega))
            refine AW.wk [(3, AV.ptr 0 0), (4, AV.ptr 1 0), (69, AV.bool (v19 != (decide (v9 ≤ v12))))] [(0, .cells [AV.lst false false (List.map (AV.int .i64) v4), AV.int .i64 v11]), (1, .cells [AV.int .i64 20, AV.int .i64 v9, AV.lst false false (List.map (AV.int .i64) v6)])] 4 (by simp [h2, h2_, h6, h6_, h8, h8_, h17, h17_, h19, h19_, h20]) (by simp [h2, h2_, h6, h6_, h8, h8_, h17, h17_, h19, h19_, h20]) (by simp) ?_
            by_cases h22 : (v19 != (decide (v9 ≤ v12))) = true
            · replace hF := ite_t h22 hF
              have h22_ := h22
              try simp at h22_
              refine AW.condT (by decide) (by first | (simp [h2, h2_, h6, h6_, h8, h8_, h17, h17_, h19, h19_, h20, h22, h22_]; done) | (simp [h2, h2_, h6, h6_, h8, h8_, h17, h17_, h19, h19_, h20, h22, h22_]; omega)) ?_
              refine AW.seqR mixed [] [none] (by kernel_rfl) fun G1646 R1646 hG1646 hR1646 => ?_
              try simp [h2, h2_, h6, h6_, h8, h8_, h17, h17_, h19, h19_, h20, h22, h22_]
              repeat' apply And.intro
              any_goals (first | exact hG1646 _ (by kernel_rfl) | refine hR1646 _ _ _ ?_ | omega | (unfold maxLen; omega) | (simp [h2, h2_, h6, h6_, h8, h8_, h17, h17_, h19, h19_, h20, h22, h22_]; done) | (simp [h2, h2_, h6, h6_, h8, h8_, h17, h17_, h19, h19_, h20, h22, h22_]; omega))
              refine AW.wk [(2, AV.bool false)] [] 4 (by simp [h2, h2_, h6, h6_, h8, h8_, h17, h17_, h19, h19_, h20, h22, h22_]) (by simp [h2, h2_, h6, h6_, h8, h8_, h17, h17_, h19, h19_, h20, h22, h22_]) (by simp) ?_
              simp only [Option.some.injEq] at hF
              subst hF
              refine AW.ret (hQ _ _ _ ?_ (matchO_0 ?_)).1
              · simp [Try.f3, h2, h2_, h6, h6_, h8, h8_, h17, h17_, h19, h19_, h20, h22, h22_]
              · simp [h2, h2_, h6, h6_, h8, h8_, h17, h17_, h19, h19_, h20, h22, h22_]
            · replace hF := ite_f h22 hF
              have h22_ := h22
              try simp at h22_
              refine AW.condF (by decide) (by first | (simp [h2, h2_, h6, h6_, h8, h8_, h17, h17_, h19, h19_, h20, h22, h22_]; done) | (simp [h2, h2_, h6, h6_, h8, h8_, h17, h17_, h19, h19_, h20, h22, h22_]; omega)) ?_
              refine AW.skip ?_
              refine hK1581 _ _ _ ?_
              refine AW.region mixed [] [none, none, none, none, none] (by kernel_rfl) fun G1647 R1647 hG1647 hR1647 => ?_
              try simp [h2, h2_, h6, h6_, h8, h8_, h17, h17_, h19, h19_, h20, h22, h22_]
              repeat' apply And.intro
              any_goals (first | exact hG1647 _ (by kernel_rfl) | refine hR1647 _ _ _ ?_ | omega | (unfold maxLen; omega) | (simp [h2, h2_, h6, h6_, h8, h8_, h17, h17_, h19, h19_, h20, h22, h22_]; done) | (simp [h2, h2_, h6, h6_, h8, h8_, h17, h17_, h19, h19_, h20, h22, h22_]; omega))
              refine hK1512 _ _ _ ?_
              refine Can.weak [(3, AV.ptr 0 0), (4, AV.ptr 1 0)] [(0, .cells [AV.lst false false (List.map (AV.int .i64) v4), AV.int .i64 v11]), (1, .cells [AV.int .i64 20, AV.int .i64 (IntKind.wrap .i64 (v9 + 1)), AV.lst false false (List.map (AV.int .i64) v6)])] 4 (by simp [h2, h2_, h6, h6_, h8, h8_, h17, h17_, h19, h19_, h20, h22, h22_]) (by simp [h2, h2_, h6, h6_, h8, h8_, h17, h17_, h19, h19_, h20, h22, h22_]) (by simp) ?_
              refine Can.ren (m := 0) h0 [(0, 0), (1, 1)] [(3, AV.ptr 0 0), (4, AV.ptr 1 0)] [(0, .cells [AV.lst false false (List.map (AV.int .i64) v4), AV.int .i64 v11]), (1, .cells [AV.int .i64 20, AV.int .i64 (IntKind.wrap .i64 (v9 + 1)), AV.lst false false (List.map (AV.int .i64) v6)])] 2 (by decide) (by decide) (by decide) rfl (by simp [h2, h2_, h6, h6_, h8, h8_, h17, h17_, h19, h19_, h20, h22, h22_]) (by simp [h2, h2_, h6, h6_, h8, h8_, h17, h17_, h19, h19_, h20, h22, h22_]) ?_
              exact Can.next (k' := n1) ((v11, IntKind.wrap .i64 (v9 + 1))) (by omega) hF (by simp [h2, h2_, h6, h6_, h8, h8_, h17, h17_, h19, h19_, h20, h22, h22_]) (by simp [h2, h2_, h6, h6_, h8, h8_, h17, h17_, h19, h19_, h20, h22, h22_]) (by simp)
    · replace hF := ite_f h6 hF
      have h6_ := h6
      try simp at h6_
      refine AW.condF (by decide) (by first | (simp [h2, h2_, h6, h6_]; done) | (simp [h2, h2_, h6, h6_]; omega)) ?_
      refine AW.exit ?_
      try simp
      refine hK1240 _ _ _ ?_
      refine AW.seqR mixed [] [none, none, none, none, some (73, true), some (73, true), some (73, true), some (73, true), some (73, true), none, none, some (80, true), none, none] (by kernel_rfl) fun G1648 R1648 hG1648 hR1648 => ?_
      try simp [h2, h2_, h6, h6_]
      repeat' apply And.intro
      try any_goals (first | omega | (unfold maxLen; omega) | (simp [h2, h2_, h6, h6_]; done))
      obtain ⟨v20, h23, hF⟩ := bnd1_elim hF
      refine aCall_l (w_guardian_Valid k _ _ _ _ h23) (by simp) [] [] [] rfl (.cons (.same (by simp [h2, h2_, h6, h6_])) .nil) (by simp [h2, h2_, h6, h6_]) (by decide) (by simp) (by simp) (.inl rfl) (by simp) (by simp) ?_
      by_cases h24 : (!v20) = true
      · replace hF := ite_t h24 hF
        have h24_ := h24
        try simp at h24_
        try simp [h2, h2_, h6, h6_, h24, h24_]
        repeat' apply And.intro
        try any_goals (first | omega | (unfold maxLen; omega) | (simp [h2, h2_, h6, h6_, h24, h24_]; done))
        obtain ⟨v21, h25, hF⟩ := bnd1_elim hF
        refine aCall_l (w_guardian_Enough k _ _ _ _ _ h25) (by simp) [] [] [] rfl (.cons (.same (by simp [h2, h2_, h6, h6_, h24, h24_])) (.cons (.same (by simp [h2, h2_, h6, h6_, h24, h24_])) .nil)) (by simp [h2, h2_, h6, h6_, h24, h24_]) (by decide) (by simp) (by simp) (.inl rfl) (by simp) (by simp) ?_
        by_cases h26 : (!v21) = true
        · replace hF := ite_t h26 hF
          have h26_ := h26
          try simp at h26_
          try simp [h2, h2_, h6, h6_, h24, h24_, h26, h26_]
          repeat' apply And.intro
          try any_goals (first | omega | (unfold maxLen; omega) | (simp [h2, h2_, h6, h6_, h24, h24_, h26, h26_]; done))
          obtain ⟨v22, h27, hF⟩ := bnd1_elim hF
          refine aCall_l (w_law34_awake k _ h27) (by simp) [] [] [] rfl .nil (by simp [h2, h2_, h6, h6_, h24, h24_, h26, h26_]) (by decide) (by simp) (by simp) (.inl rfl) (by simp) (by simp) ?_
          try simp [h2, h2_, h6, h6_, h24, h24_, h26, h26_]
          repeat' apply And.intro
          any_goals (first | exact hG1648 _ (by kernel_rfl) | refine hR1648 _ _ _ ?_ | omega | (unfold maxLen; omega) | (simp [h2, h2_, h6, h6_, h24, h24_, h26, h26_]; done) | (simp [h2, h2_, h6, h6_, h24, h24_, h26, h26_]; omega))
          refine AW.wk [(2, AV.bool v22)] [] 2 (by simp [h2, h2_, h6, h6_, h24, h24_, h26, h26_]) (by simp [h2, h2_, h6, h6_, h24, h24_, h26, h26_]) (by simp) ?_
          simp only [Option.some.injEq] at hF
          subst hF
          refine AW.ret (hQ _ _ _ ?_ (matchO_0 ?_)).1
          · simp [Try.f3, h2, h2_, h6, h6_, h24, h24_, h26, h26_]
          · simp [h2, h2_, h6, h6_, h24, h24_, h26, h26_]
        · replace hF := ite_f h26 hF
          have h26_ := h26
          try simp at h26_
          try simp [h2, h2_, h6, h6_, h24, h24_, h26, h26_]
          repeat' apply And.intro
          any_goals (first | exact hG1648 _ (by kernel_rfl) | refine hR1648 _ _ _ ?_ | omega | (unfold maxLen; omega) | (simp [h2, h2_, h6, h6_, h24, h24_, h26, h26_]; done) | (simp [h2, h2_, h6, h6_, h24, h24_, h26, h26_]; omega))
          refine AW.wk [(2, AV.bool false)] [] 2 (by simp [h2, h2_, h6, h6_, h24, h24_, h26, h26_]) (by simp [h2, h2_, h6, h6_, h24, h24_, h26, h26_]) (by simp) ?_
          simp only [Option.some.injEq] at hF
          subst hF
          refine AW.ret (hQ _ _ _ ?_ (matchO_0 ?_)).1
          · simp [Try.f3, h2, h2_, h6, h6_, h24, h24_, h26, h26_]
          · simp [h2, h2_, h6, h6_, h24, h24_, h26, h26_]
      · replace hF := ite_f h24 hF
        have h24_ := h24
        try simp at h24_
        try simp [h2, h2_, h6, h6_, h24, h24_]
        repeat' apply And.intro
        any_goals (first | exact hG1648 _ (by kernel_rfl) | refine hR1648 _ _ _ ?_ | omega | (unfold maxLen; omega) | (simp [h2, h2_, h6, h6_, h24, h24_]; done) | (simp [h2, h2_, h6, h6_, h24, h24_]; omega))
        refine AW.wk [(2, AV.bool false)] [] 2 (by simp [h2, h2_, h6, h6_, h24, h24_]) (by simp [h2, h2_, h6, h6_, h24, h24_]) (by simp) ?_
        simp only [Option.some.injEq] at hF
        subst hF
        refine AW.ret (hQ _ _ _ ?_ (matchO_0 ?_)).1
        · simp [Try.f3, h2, h2_, h6, h6_, h24, h24_]
        · simp [h2, h2_, h6, h6_, h24, h24_]
set_option maxHeartbeats 4000000 in
theorem w_slices_Clone_byte_byte (k : Nat) (v0 : (List Int)) (v1 : (List Int)) (hF : slices_Clone_byte_byte k v0 = some v1) :
    FCall Try.prog 75 [AV.lst false false (List.map (AV.int .u8) v0)] [] (AV.slc 0 0 1 v1.length false) [some (.grow (List.map (AV.int .u8) v1))] := by
  unfold slices_Clone_byte_byte at hF
  obtain ⟨h1, hF⟩ := chk_elim hF
  simp only [Option.some.injEq] at hF
  subst hF
  refine FCall.enter Try.func75 rfl (by simp) (by decide) (by simp) (by simp) (by simp) (by simp) (by simp) ?_
  intro c0 w0 Q h0 hQ
  refine AW.wk [(0, AV.lst false false (List.map (AV.int .u8) v0))] [] 0 (by simp) (by simp) (by simp) ?_
  refine AW.seqR mixed [] [none] (by kernel_rfl) fun G0 R0 hG0 hR0 => ?_
  simp
  refine ⟨hG0 _ (by kernel_rfl), hR0 _ _ _ ?_⟩
  refine AW.wk [(0, AV.lst false false (List.map (AV.int .u8) v0))] [] 0 (by simp) (by simp) (by simp) ?_
  refine AW.nilSplit (fl := false) (xs := List.map (AV.int .u8) v0) 0 (by decide) (by simp) (fun hx => ?_) ?_
  · simp at hx
    subst hx
    refine AW.wk [(0, AV.lst true false [])] [] 0 (by simp) (by simp) (by simp) ?_
    refine AW.seq fun K2 hK2 => ?_
    refine AW.seqR mixed [] [none, none] (by kernel_rfl) fun G1 R1 hG1 hR1 => ?_
    simp
    refine ⟨hG1 _ (by kernel_rfl), hR1 _ _ _ ?_⟩
    refine AW.wk [(4, AV.bool true)] [] 0 (by simp) (by simp) (by simp) ?_
    refine AW.condT (by decide) (by simp) ?_
    refine AW.seqR mixed [] [none] (by kernel_rfl) fun G3 R3 hG3 hR3 => ?_
    simp
    refine ⟨hG3 _ (by kernel_rfl), hR3 _ _ _ ?_⟩
    refine AW.wk [(2, AV.lst true true [])] [] 0 (by simp) (by simp) (by simp) ?_
    refine AW.own' 2 1 true (by simp) (by decide) ?_
    refine AW.ret (hQ _ _ _ ?_ (matchO_0 ?_)).1
    · simp [Try.f75]
    · simp
  · refine AW.wk [(0, AV.nn (AV.lst false false (List.map (AV.int .u8) v0)))] [] 0 (by simp) (by simp) (by simp) ?_
    refine AW.seq fun K2 hK2 => ?_
    refine AW.seqR mixed [] [none, none] (by kernel_rfl) fun G1 R1 hG1 hR1 => ?_
    simp
    refine ⟨hG1 _ (by kernel_rfl), hR1 _ _ _ ?_⟩
    refine AW.wk [(0, AV.nn (AV.lst false false (List.map (AV.int .u8) v0))), (4, AV.bool false)] [] 0 (by simp) (by simp) (by simp) ?_
    refine AW.flg [(0, AV.lst false false (List.map (AV.int .u8) v0))] [] ⟨.nn, trivial⟩ trivial (by decide) ?_
    refine AW.wk [(0, AV.lst false false (List.map (AV.int .u8) v0)), (4, AV.bool false)] [] 0 (by simp) (by simp) (by simp) ?_
    refine AW.condF (by decide) (by simp) ?_
    refine AW.skip ?_
    refine hK2 _ _ _ ?_
    refine AW.seqR mixed [7] [none, none, none, none] (by kernel_rfl) fun G3 R3 hG3 hR3 => ?_
    simp
    repeat' apply And.intro
    any_goals (first | exact hG3 _ (by kernel_rfl) | refine hR3 _ _ _ ?_ | omega | (unfold maxLen; omega))
    refine AW.wk [(2, AV.slc 0 0 1 v0.length false)] [(0, .grow (List.map (AV.int .u8) v0))] 1 (by simp) (by simp) (by simp) ?_
    refine AW.ret (hQ _ _ _ ?_ (matchO_0 ?_)).1
    · simp [Try.f75]
    · simp
set_option maxHeartbeats 4000000 in
theorem w_wire_put (k : Nat) (v0 : (List Int)) (v1 : Int) (v2 : (List Int)) (hF : wire_put k v0 v1 = some v2) :
    FCall Try.prog 74 [AV.slc 0 0 1 v0.length false, AV.int .i64 v1] [.grow (List.map (AV.int .u8) v0)] (AV.slc 1 0 1 v2.length false) [none, some (.grow (List.map (AV.int .u8) v2))] := by
  unfold wire_put at hF
  refine FCall.enter Try.func74 rfl (by simp) (by decide) (by simp) (by simp) (by simp) (by simp) (by simp) ?_
  intro c0 w0 Q h0 hQ
  refine AW.wk [(0, AV.slc 0 0 1 v0.length false), (1, AV.int .i64 v1)] [(0, .grow (List.map (AV.int .u8) v0))] 1 (by simp) (by simp) (by simp) ?_
  refine AW.seqR mixed [] [none] (by kernel_rfl) fun G50 R50 hG50 hR50 => ?_
  try simp
  repeat' apply And.intro
  any_goals (first | exact hG50 _ (by kernel_rfl) | refine hR50 _ _ _ ?_ | omega | (unfold maxLen; omega) | (simp; done) | (simp; omega))
  refine AW.wk [(0, AV.slc 0 0 1 v0.length false), (1, AV.int .i64 v1)] [(0, .grow (List.map (AV.int .u8) v0))] 1 (by simp) (by simp) (by simp) ?_
  refine AW.seq fun K74 hK74 => ?_
  refine AW.seqR mixed [] [none] (by kernel_rfl) fun G75 R75 hG75 hR75 => ?_
  try simp
  repeat' apply And.intro
  any_goals (first | exact hG75 _ (by kernel_rfl) | refine hR75 _ _ _ ?_ | omega | (unfold maxLen; omega) | (simp; done) | (simp; omega))
  refine AW.wk [(0, AV.slc 0 0 1 v0.length false), (1, AV.int .i64 v1), (5, AV.int .i64 56)] [(0, .grow (List.map (AV.int .u8) v0))] 1 (by simp) (by simp) (by simp) ?_
  refine AW.block ?_
  refine AW.rnm (m := 1) h0 [(1, 0)] [(0, AV.slc 1 0 1 v0.length false), (1, AV.int .i64 v1), (5, AV.int .i64 56)] [(1, .grow (List.map (AV.int .u8) v0))] 2 (by decide) (by decide) (by decide) rfl (by simp) (by simp) ?_
  refine AW.loopF (α := (Int × (List Int))) (fun n (v3, v4) => wire_put.L1 k v1 n v3 v4 = some v2) (fun (v3, v4) => [(0, AV.slc 1 0 1 v4.length false), (1, AV.int .i64 v1), (5, AV.int .i64 v3)]) (fun (v3, v4) => [(1, .grow (List.map (AV.int .u8) v4))]) 2 k ((56, v0)) hF (by simp) (by simp) (by simp) ?_
  rintro (_|n1) ⟨v3, v4⟩ hF K90 hK90
  · try dsimp only at hF
    rw [wire_put.L1] at hF; cases hF
  try dsimp only at hF
  rw [wire_put.L1] at hF
  refine AW.seq fun K92 hK92 => ?_
  refine AW.seqR mixed [] [none, none] (by kernel_rfl) fun G93 R93 hG93 hR93 => ?_
  try simp
  repeat' apply And.intro
  any_goals (first | exact hG93 _ (by kernel_rfl) | refine hR93 _ _ _ ?_ | omega | (unfold maxLen; omega) | (simp; done) | (simp; omega))
  refine AW.wk [(0, AV.slc 1 0 1 v4.length false), (1, AV.int .i64 v1), (5, AV.int .i64 v3), (7, AV.bool (decide (0 ≤ v3)))] [(1, .grow (List.map (AV.int .u8) v4))] 2 (by simp) (by simp) (by simp) ?_
  by_cases h1 : 0 ≤ v3
  · replace hF := ite_t h1 hF
    have h1_ := h1
    try simp at h1_
    refine AW.condT (by decide) (by first | (simp [h1, h1_]; done) | (simp [h1, h1_]; omega)) ?_
    refine AW.skip ?_
    refine hK92 _ _ _ ?_
    refine AW.seq fun K95 hK95 => ?_
    refine AW.block ?_
    refine AW.region mixed [] [none, none, none, none, none, none, none, none, none, none] (by kernel_rfl) fun G96 R96 hG96 hR96 => ?_
    obtain ⟨h2, hF⟩ := chk_elim hF
    obtain ⟨h3, hF⟩ := chk_elim hF
    have h3_ := h3
    try simp at h3_
    try simp [h1, h1_, h2, h3]
    repeat' apply And.intro
    any_goals (first | exact hG96 _ (by kernel_rfl) | refine hR96 _ _ _ ?_ | omega | (unfold maxLen; omega) | (simp [h1, h1_, h2, h3]; done) | (simp [h1, h1_, h2, h3]; omega))
    refine hK95 _ _ _ ?_
    refine AW.wk [(0, AV.slc 2 0 1 ((v4 ++ ([IntKind.wrap .u8 (Int.fdiv (IntKind.wrap .u64 v1) (2 ^ (min ((IntKind.wrap .u64 v3).toNat) 64)))] : List Int)).length) false), (1, AV.int .i64 v1), (5, AV.int .i64 v3)] [(2, .grow (List.map (AV.int .u8) (v4 ++ ([IntKind.wrap .u8 (Int.fdiv (IntKind.wrap .u64 v1) (2 ^ (min ((IntKind.wrap .u64 v3).toNat) 64)))] : List Int))))] 3 (by simp [h1, h1_, h2, h3]) (by simp [h1, h1_, h2, h3]) (by simp) ?_
    refine AW.region mixed [] [none, none, none] (by kernel_rfl) fun G97 R97 hG97 hR97 => ?_
    try simp [h1, h1_, h2, h3]
    repeat' apply And.intro
    any_goals (first | exact hG97 _ (by kernel_rfl) | refine hR97 _ _ _ ?_ | omega | (unfold maxLen; omega) | (simp [h1, h1_, h2, h3]; done) | (simp [h1, h1_, h2, h3]; omega))
    refine hK90 _ _ _ ?_
    refine Can.weak [(0, AV.slc 2 0 1 ((v4 ++ ([IntKind.wrap .u8 (Int.fdiv (IntKind.wrap .u64 v1) (2 ^ (min ((IntKind.wrap .u64 v3).toNat) 64)))] : List Int)).length) false), (1, AV.int .i64 v1), (5, AV.int .i64 (IntKind.wrap .i64 (v3 - 8)))] [(2, .grow (List.map (AV.int .u8) (v4 ++ ([IntKind.wrap .u8 (Int.fdiv (IntKind.wrap .u64 v1) (2 ^ (min ((IntKind.wrap .u64 v3).toNat) 64)))] : List Int))))] 3 (by simp [h1, h1_, h2, h3]) (by simp [h1, h1_, h2, h3]) (by simp) ?_
    refine Can.ren (m := 1) h0 [(1, 2)] [(0, AV.slc 1 0 1 ((v4 ++ ([IntKind.wrap .u8 (Int.fdiv (IntKind.wrap .u64 v1) (2 ^ (min ((IntKind.wrap .u64 v3).toNat) 64)))] : List Int)).length) false), (1, AV.int .i64 v1), (5, AV.int .i64 (IntKind.wrap .i64 (v3 - 8)))] [(1, .grow (List.map (AV.int .u8) (v4 ++ ([IntKind.wrap .u8 (Int.fdiv (IntKind.wrap .u64 v1) (2 ^ (min ((IntKind.wrap .u64 v3).toNat) 64)))] : List Int))))] 2 (by decide) (by decide) (by decide) rfl (by simp [h1, h1_, h2, h3]) (by simp [h1, h1_, h2, h3]) ?_
    exact Can.next (k' := n1) ((IntKind.wrap .i64 (v3 - 8), v4 ++ ([IntKind.wrap .u8 (Int.fdiv (IntKind.wrap .u64 v1) (2 ^ (min ((IntKind.wrap .u64 v3).toNat) 64)))] : List Int))) (by omega) hF (by simp [h1, h1_, h2, h3]) (by simp [h1, h1_, h2, h3]) (by simp)
  · replace hF := ite_f h1 hF
    have h1_ := h1
    try simp at h1_
    refine AW.condF (by decide) (by first | (simp [h1, h1_]; done) | (simp [h1, h1_]; omega)) ?_
    refine AW.exit ?_
    try simp
    refine hK74 _ _ _ ?_
    refine AW.seqR mixed [] [none, none] (by kernel_rfl) fun G98 R98 hG98 hR98 => ?_
    try simp [h1, h1_]
    repeat' apply And.intro
    any_goals (first | exact hG98 _ (by kernel_rfl) | refine hR98 _ _ _ ?_ | omega | (unfold maxLen; omega) | (simp [h1, h1_]; done) | (simp [h1, h1_]; omega))
    refine AW.wk [(4, AV.slc 1 0 1 v4.length false)] [(1, .grow (List.map (AV.int .u8) v4))] 2 (by simp [h1, h1_]) (by simp [h1, h1_]) (by simp) ?_
    simp only [Option.some.injEq] at hF
    subst hF
    refine AW.ret (hQ _ _ _ ?_ (matchO_0 ?_)).1
    · simp [Try.f74, h1, h1_]
    · simp [h1, h1_]
end Go.TF
