/- Walks: the Go text computes the Lean functions (printed by a program of our own). -/
import Derived.Test.YtocmgnljgemjkaaPu
import Derived.Test.YtocmgnljgemjkaaAbsT
import Derived.Test.YtocmgnljgemjkaaWa0
import Derived.Test.YtocmgnljgemjkaaWF1
import Derived.Test.YtocmgnljgemjkaaWF2
set_option linter.unusedVariables false
set_option linter.unusedSimpArgs false
set_option maxRecDepth 100000
namespace Go.TF
open Go Go.Abs Go.Proofs Go.Proofs.YtocmgnljgemjkaaT
set_option maxHeartbeats 4000000 in
theorem w_law26_CommitteeFewer (k : Nat) (v0 : (List Int)) (v1 : Int) (v2 : Int) (v3 : Bool) (hF : law26_CommitteeFewer k v0 v1 v2 = some v3) :
    FCall Try.prog 10 [AV.lst false false (List.map (AV.int .i64) v0), AV.int .u8 v1, AV.int .u8 v2] [] (AV.bool v3) [] := by
  unfold law26_CommitteeFewer at hF
  refine FCall.enter Try.func10 rfl (by simp) (by decide) (by simp) (by simp) (by simp) (by simp) (by simp) ?_
  intro c0 w0 Q h0 hQ
  refine AW.wk [(0, AV.lst false false (List.map (AV.int .i64) v0)), (1, AV.int .u8 v1), (2, AV.int .u8 v2)] [] 0 (by simp) (by simp) (by simp) ?_
  refine AW.seqR mixed [] [none] (by kernel_rfl) fun G102 R102 hG102 hR102 => ?_
  try simp
  repeat' apply And.intro
  any_goals (first | exact hG102 _ (by kernel_rfl) | refine hR102 _ _ _ ?_ | omega | (unfold maxLen; omega) | (simp; done) | (simp; omega))
  refine AW.wk [(0, AV.lst false false (List.map (AV.int .i64) v0)), (1, AV.int .u8 v1), (2, AV.int .u8 v2)] [] 0 (by simp) (by simp) (by simp) ?_
  refine AW.seq fun K105 hK105 => ?_
  refine AW.seqR mixed [] [none, none, none] (by kernel_rfl) fun G106 R106 hG106 hR106 => ?_
  try simp
  repeat' apply And.intro
  try any_goals (first | omega | (unfold maxLen; omega) | (simp; done))
  obtain ⟨v4, h1, hF⟩ := bnd1_elim hF
  refine aCall_l (w_mill_Light k _ _ h1) (by simp) [] [] [] rfl (.cons (.same (by simp)) .nil) (by simp) (by decide) (by simp) (by simp) (.inl rfl) (by simp) (by simp) ?_
  try simp
  repeat' apply And.intro
  any_goals (first | exact hG106 _ (by kernel_rfl) | refine hR106 _ _ _ ?_ | omega | (unfold maxLen; omega) | (simp; done) | (simp; omega))
  refine AW.wk [(0, AV.lst false false (List.map (AV.int .i64) v0)), (1, AV.int .u8 v1), (2, AV.int .u8 v2), (23, AV.bool (!v4))] [] 0 (by simp) (by simp) (by simp) ?_
  by_cases h2 : (!v4) = true
  · replace hF := ite_t h2 hF
    have h2_ := h2
    try simp at h2_
    refine AW.condT (by decide) (by first | (simp [h2, h2_]; done) | (simp [h2, h2_]; omega)) ?_
    refine AW.seqR mixed [] [none, none] (by kernel_rfl) fun G107 R107 hG107 hR107 => ?_
    try simp [h2, h2_]
    repeat' apply And.intro
    try any_goals (first | omega | (unfold maxLen; omega) | (simp [h2, h2_]; done))
    obtain ⟨v5, h3, hF⟩ := bnd1_elim hF
    refine aCall_l (w_law26_awake k _ h3) (by simp) [] [] [] rfl .nil (by simp [h2, h2_]) (by decide) (by simp) (by simp) (.inl rfl) (by simp) (by simp) ?_
    try simp [h2, h2_]
    repeat' apply And.intro
    any_goals (first | exact hG107 _ (by kernel_rfl) | refine hR107 _ _ _ ?_ | omega | (unfold maxLen; omega) | (simp [h2, h2_]; done) | (simp [h2, h2_]; omega))
    refine AW.wk [(6, AV.bool v5)] [] 0 (by simp [h2, h2_]) (by simp [h2, h2_]) (by simp) ?_
    simp only [Option.some.injEq] at hF
    subst hF
    refine AW.ret (hQ _ _ _ ?_ (matchO_0 ?_)).1
    · simp [Try.f10, h2, h2_]
    · simp [h2, h2_]
  · replace hF := ite_f h2 hF
    have h2_ := h2
    try simp at h2_
    refine AW.condF (by decide) (by first | (simp [h2, h2_]; done) | (simp [h2, h2_]; omega)) ?_
    refine AW.skip ?_
    refine hK105 _ _ _ ?_
    refine AW.seqR mixed [] [none, none, none] (by kernel_rfl) fun G108 R108 hG108 hR108 => ?_
    try simp [h2, h2_]
    repeat' apply And.intro
    try any_goals (first | omega | (unfold maxLen; omega) | (simp [h2, h2_]; done))
    obtain ⟨v6, v7, h4, hF⟩ := bnd2_elim hF
    refine aCall_l (w_mill_Roll k _ _ _ h4) (by simp) [] [] [] rfl (.cons (.same (by simp [h2, h2_])) .nil) (by simp [h2, h2_]) (by decide) (by simp) (by simp) (.inl rfl) (by simp) (by simp) ?_
    try simp [h2, h2_]
    repeat' apply And.intro
    any_goals (first | exact hG108 _ (by kernel_rfl) | refine hR108 _ _ _ ?_ | omega | (unfold maxLen; omega) | (simp [h2, h2_]; done) | (simp [h2, h2_]; omega))
    refine AW.wk [(1, AV.int .u8 v1), (2, AV.int .u8 v2), (7, AV.ptr 0 0)] [(0, .cells [AV.lst false false (List.map (AV.int .i64) v6), AV.int .i64 v7])] 1 (by simp [h2, h2_]) (by simp [h2, h2_]) (by simp) ?_
    refine AW.seqR mixed [] [none, none, none] (by kernel_rfl) fun G109 R109 hG109 hR109 => ?_
    try simp [h2, h2_]
    repeat' apply And.intro
    try any_goals (first | omega | (unfold maxLen; omega) | (simp [h2, h2_]; done))
    obtain ⟨v8, v9, h5, hF⟩ := bnd2_elim hF
    refine aCall_l (w_mill_Keys k _ _ _ _ _ h5) (by simp) [0] [] [0] rfl (.cons (.same (by simp [h2, h2_])) (.cons (.same (by simp [h2, h2_])) .nil)) (by simp [h2, h2_]) (by decide) (by simp) (by simp) (.inl rfl) (by simp) (by simp) ?_
    try simp [h2, h2_]
    repeat' apply And.intro
    any_goals (first | exact hG109 _ (by kernel_rfl) | refine hR109 _ _ _ ?_ | omega | (unfold maxLen; omega) | (simp [h2, h2_]; done) | (simp [h2, h2_]; omega))
    refine AW.wk [(1, AV.int .u8 v1), (2, AV.int .u8 v2), (7, AV.ptr 0 0), (8, AV.lst false false (List.map (AV.int .i64) v8))] [(0, .cells [AV.lst false false (List.map (AV.int .i64) v6), AV.int .i64 v9])] 1 (by simp [h2, h2_]) (by simp [h2, h2_]) (by simp) ?_
    refine AW.seqR mixed [] [none, none, none, none, none] (by kernel_rfl) fun G110 R110 hG110 hR110 => ?_
    try simp [h2, h2_]
    repeat' apply And.intro
    any_goals (first | exact hG110 _ (by kernel_rfl) | refine hR110 _ _ _ ?_ | omega | (unfold maxLen; omega) | (simp [h2, h2_]; done) | (simp [h2, h2_]; omega))
    refine AW.wk [(2, AV.int .u8 v2), (7, AV.ptr 0 0), (8, AV.lst false false (List.map (AV.int .i64) v8)), (9, AV.int .i64 (IntKind.wrap .i64 (1 + Int.tmod (IntKind.wrap .i64 v1) 9)))] [(0, .cells [AV.lst false false (List.map (AV.int .i64) v6), AV.int .i64 v9])] 1 (by simp [h2, h2_]) (by simp [h2, h2_]) (by simp) ?_
    refine AW.seqR mixed [] [none, none, none, none, none, none] (by kernel_rfl) fun G111 R111 hG111 hR111 => ?_
    obtain ⟨h6, hF⟩ := chk_elim hF
    have h6_ := h6
    try simp at h6_
    try simp [h2, h2_, h6, h6_]
    repeat' apply And.intro
    any_goals (first | exact hG111 _ (by kernel_rfl) | refine hR111 _ _ _ ?_ | omega | (unfold maxLen; omega) | (simp [h2, h2_, h6, h6_]; done) | (simp [h2, h2_, h6, h6_]; omega))
    refine AW.wk [(7, AV.ptr 0 0), (8, AV.lst false false (List.map (AV.int .i64) v8)), (9, AV.int .i64 (IntKind.wrap .i64 (1 + Int.tmod (IntKind.wrap .i64 v1) 9))), (10, AV.int .i64 (IntKind.wrap .i64 (1 + Int.tmod (IntKind.wrap .i64 v2) (IntKind.wrap .i64 (1 + Int.tmod (IntKind.wrap .i64 v1) 9)))))] [(0, .cells [AV.lst false false (List.map (AV.int .i64) v6), AV.int .i64 v9])] 1 (by simp [h2, h2_, h6, h6_]) (by simp [h2, h2_, h6, h6_]) (by simp) ?_
    refine AW.seqR mixed [] [none, none] (by kernel_rfl) fun G112 R112 hG112 hR112 => ?_
    try simp [h2, h2_, h6, h6_]
    repeat' apply And.intro
    any_goals (first | exact hG112 _ (by kernel_rfl) | refine hR112 _ _ _ ?_ | omega | (unfold maxLen; omega) | (simp [h2, h2_, h6, h6_]; done) | (simp [h2, h2_, h6, h6_]; omega))
    refine AW.wk [(7, AV.ptr 0 0), (8, AV.lst false false (List.map (AV.int .i64) v8)), (9, AV.int .i64 (IntKind.wrap .i64 (1 + Int.tmod (IntKind.wrap .i64 v1) 9))), (10, AV.int .i64 (IntKind.wrap .i64 (1 + Int.tmod (IntKind.wrap .i64 v2) (IntKind.wrap .i64 (1 + Int.tmod (IntKind.wrap .i64 v1) 9))))), (11, AV.lst true true (List.map (AV.int .i64) ([] : List Int))), (12, AV.lst true true (List.map (AV.int .i64) ([] : List Int)))] [(0, .cells [AV.lst false false (List.map (AV.int .i64) v6), AV.int .i64 v9])] 1 (by simp [h2, h2_, h6, h6_]) (by simp [h2, h2_, h6, h6_]) (by simp) ?_
    refine AW.seq fun K148 hK148 => ?_
    refine AW.seqR mixed [] [none] (by kernel_rfl) fun G149 R149 hG149 hR149 => ?_
    try simp [h2, h2_, h6, h6_]
    repeat' apply And.intro
    any_goals (first | exact hG149 _ (by kernel_rfl) | refine hR149 _ _ _ ?_ | omega | (unfold maxLen; omega) | (simp [h2, h2_, h6, h6_]; done) | (simp [h2, h2_, h6, h6_]; omega))
    refine AW.wk [(7, AV.ptr 0 0), (8, AV.lst false false (List.map (AV.int .i64) v8)), (9, AV.int .i64 (IntKind.wrap .i64 (1 + Int.tmod (IntKind.wrap .i64 v1) 9))), (10, AV.int .i64 (IntKind.wrap .i64 (1 + Int.tmod (IntKind.wrap .i64 v2) (IntKind.wrap .i64 (1 + Int.tmod (IntKind.wrap .i64 v1) 9))))), (11, AV.lst true true (List.map (AV.int .i64) ([] : List Int))), (12, AV.lst true true (List.map (AV.int .i64) ([] : List Int))), (13, AV.int .i64 0)] [(0, .cells [AV.lst false false (List.map (AV.int .i64) v6), AV.int .i64 v9])] 1 (by simp [h2, h2_, h6, h6_]) (by simp [h2, h2_, h6, h6_]) (by simp) ?_
    refine AW.block ?_
    refine AW.own' 11 1 true (by simp [h2, h2_, h6, h6_]) (by decide) ?_
    refine AW.own' 12 1 true (by simp [h2, h2_, h6, h6_]) (by decide) ?_
    refine AW.loopF (α := (Int × Int × (List Int) × (List Int))) (fun n (v10, v11, v12, v13) => law26_CommitteeFewer.L1 k v1 v2 v6 v8 n v10 v11 v12 v13 = some v3) (fun (v10, v11, v12, v13) => [(7, AV.ptr 0 0), (8, AV.lst false false (List.map (AV.int .i64) v8)), (9, AV.int .i64 (IntKind.wrap .i64 (1 + Int.tmod (IntKind.wrap .i64 v1) 9))), (10, AV.int .i64 (IntKind.wrap .i64 (1 + Int.tmod (IntKind.wrap .i64 v2) (IntKind.wrap .i64 (1 + Int.tmod (IntKind.wrap .i64 v1) 9))))), (11, AV.slc 1 0 1 v12.length false), (12, AV.slc 2 0 1 v13.length false), (13, AV.int .i64 v10)]) (fun (v10, v11, v12, v13) => [(0, .cells [AV.lst false false (List.map (AV.int .i64) v6), AV.int .i64 v11]), (1, .grow (List.map (AV.int .i64) v12)), (2, .grow (List.map (AV.int .i64) v13))]) 3 k ((0, v9, ([] : List Int), ([] : List Int))) hF (by simp [h2, h2_, h6, h6_]) (by simp [h2, h2_, h6, h6_]) (by simp) ?_
    rintro (_|n1) ⟨v10, v11, v12, v13⟩ hF K172 hK172
    · try dsimp only at hF
      rw [law26_CommitteeFewer.L1] at hF; cases hF
    try dsimp only at hF
    rw [law26_CommitteeFewer.L1] at hF
    refine AW.seq fun K174 hK174 => ?_
    refine AW.seqR mixed [] [none, none] (by kernel_rfl) fun G175 R175 hG175 hR175 => ?_
    try simp [h2, h2_, h6, h6_]
    repeat' apply And.intro
    any_goals (first | exact hG175 _ (by kernel_rfl) | refine hR175 _ _ _ ?_ | omega | (unfold maxLen; omega) | (simp [h2, h2_, h6, h6_]; done) | (simp [h2, h2_, h6, h6_]; omega))
    refine AW.wk [(7, AV.ptr 0 0), (8, AV.lst false false (List.map (AV.int .i64) v8)), (9, AV.int .i64 (IntKind.wrap .i64 (1 + Int.tmod (IntKind.wrap .i64 v1) 9))), (10, AV.int .i64 (IntKind.wrap .i64 (1 + Int.tmod (IntKind.wrap .i64 v2) (IntKind.wrap .i64 (1 + Int.tmod (IntKind.wrap .i64 v1) 9))))), (11, AV.slc 1 0 1 v12.length false), (12, AV.slc 2 0 1 v13.length false), (13, AV.int .i64 v10), (39, AV.bool (decide (v10 < 9)))] [(0, .cells [AV.lst false false (List.map (AV.int .i64) v6), AV.int .i64 v11]), (1, .grow (List.map (AV.int .i64) v12)), (2, .grow (List.map (AV.int .i64) v13))] 3 (by simp [h2, h2_, h6, h6_]) (by simp [h2, h2_, h6, h6_]) (by simp) ?_
    by_cases h7 : v10 < 9
    · replace hF := ite_t h7 hF
      have h7_ := h7
      try simp at h7_
      refine AW.condT (by decide) (by first | (simp [h2, h2_, h6, h6_, h7, h7_]; done) | (simp [h2, h2_, h6, h6_, h7, h7_]; omega)) ?_
      refine AW.skip ?_
      refine hK174 _ _ _ ?_
      refine AW.seq fun K179 hK179 => ?_
      refine AW.block ?_
      refine AW.seqR mixed [] [none, none, none] (by kernel_rfl) fun G180 R180 hG180 hR180 => ?_
      try simp [h2, h2_, h6, h6_, h7, h7_]
      repeat' apply And.intro
      try any_goals (first | omega | (unfold maxLen; omega) | (simp [h2, h2_, h6, h6_, h7, h7_]; done))
      obtain ⟨v14, v15, h8, hF⟩ := bnd2_elim hF
      refine aCall_l (w_made_Dice_Next k _ _ _ _ _ h8) (by simp) [0] [] [0] rfl (.cons (.same (by simp [h2, h2_, h6, h6_, h7, h7_])) (.cons (.same (by simp [h2, h2_, h6, h6_, h7, h7_])) .nil)) (by simp [h2, h2_, h6, h6_, h7, h7_]) (by decide) (by simp) (by simp) (.inl rfl) (by simp) (by simp) ?_
      try simp [h2, h2_, h6, h6_, h7, h7_]
      repeat' apply And.intro
      any_goals (first | exact hG180 _ (by kernel_rfl) | refine hR180 _ _ _ ?_ | omega | (unfold maxLen; omega) | (simp [h2, h2_, h6, h6_, h7, h7_]; done) | (simp [h2, h2_, h6, h6_, h7, h7_]; omega))
      refine AW.wk [(7, AV.ptr 0 0), (8, AV.lst false false (List.map (AV.int .i64) v8)), (9, AV.int .i64 (IntKind.wrap .i64 (1 + Int.tmod (IntKind.wrap .i64 v1) 9))), (10, AV.int .i64 (IntKind.wrap .i64 (1 + Int.tmod (IntKind.wrap .i64 v2) (IntKind.wrap .i64 (1 + Int.tmod (IntKind.wrap .i64 v1) 9))))), (11, AV.slc 1 0 1 v12.length false), (12, AV.slc 2 0 1 v13.length false), (13, AV.int .i64 v10), (14, AV.int .i64 v14)] [(0, .cells [AV.lst false false (List.map (AV.int .i64) v6), AV.int .i64 v15]), (1, .grow (List.map (AV.int .i64) v12)), (2, .grow (List.map (AV.int .i64) v13))] 3 (by simp [h2, h2_, h6, h6_, h7, h7_]) (by simp [h2, h2_, h6, h6_, h7, h7_]) (by simp) ?_
      refine AW.seqR mixed [] [none, none, none, none, none] (by kernel_rfl) fun G181 R181 hG181 hR181 => ?_
      obtain ⟨h9, hF⟩ := chk_elim hF
      have h9_ := h9
      try simp at h9_
      try simp [h2, h2_, h6, h6_, h7, h7_, h9]
      repeat' apply And.intro
      any_goals (first | exact hG181 _ (by kernel_rfl) | refine hR181 _ _ _ ?_ | omega | (unfold maxLen; omega) | (simp [h2, h2_, h6, h6_, h7, h7_, h9]; done) | (simp [h2, h2_, h6, h6_, h7, h7_, h9]; omega))
      refine AW.wk [(7, AV.ptr 0 0), (8, AV.lst false false (List.map (AV.int .i64) v8)), (9, AV.int .i64 (IntKind.wrap .i64 (1 + Int.tmod (IntKind.wrap .i64 v1) 9))), (10, AV.int .i64 (IntKind.wrap .i64 (1 + Int.tmod (IntKind.wrap .i64 v2) (IntKind.wrap .i64 (1 + Int.tmod (IntKind.wrap .i64 v1) 9))))), (11, AV.slc 3 0 1 ((v12 ++ ([v14] : List Int)).length) false), (12, AV.slc 2 0 1 v13.length false), (13, AV.int .i64 v10), (14, AV.int .i64 v14)] [(0, .cells [AV.lst false false (List.map (AV.int .i64) v6), AV.int .i64 v15]), (2, .grow (List.map (AV.int .i64) v13)), (3, .grow (List.map (AV.int .i64) (v12 ++ ([v14] : List Int))))] 4 (by simp [h2, h2_, h6, h6_, h7, h7_, h9]) (by simp [h2, h2_, h6, h6_, h7, h7_, h9]) (by simp) ?_
      refine AW.region mixed [] [none, none, none, none, none, none, none, none, none, none, none, none] (by kernel_rfl) fun G182 R182 hG182 hR182 => ?_
      obtain ⟨v16, h10, hF⟩ := let1_elim hF
      have h10_ := h10
      try simp at h10_
      obtain ⟨h11, hF⟩ := chk_elim hF
      have h11_ := h11
      try simp at h11_
      try simp [h2, h2_, h6, h6_, h7, h7_, h9, h10, h10_, h11]
      repeat' apply And.intro
      any_goals (first | exact hG182 _ (by kernel_rfl) | refine hR182 _ _ _ ?_ | omega | (unfold maxLen; omega) | (simp [h2, h2_, h6, h6_, h7, h7_, h9, h10, h10_, h11]; done) | (simp [h2, h2_, h6, h6_, h7, h7_, h9, h10, h10_, h11]; omega))
      refine hK179 _ _ _ ?_
      refine AW.wk [(7, AV.ptr 0 0), (8, AV.lst false false (List.map (AV.int .i64) v8)), (9, AV.int .i64 (IntKind.wrap .i64 (1 + Int.tmod (IntKind.wrap .i64 v1) 9))), (10, AV.int .i64 (IntKind.wrap .i64 (1 + Int.tmod (IntKind.wrap .i64 v2) (IntKind.wrap .i64 (1 + Int.tmod (IntKind.wrap .i64 v1) 9))))), (11, AV.slc 3 0 1 ((v12 ++ ([v14] : List Int)).length) false), (12, AV.slc 4 0 1 ((v13 ++ ([IntKind.wrap .i64 (v14 + IntKind.wrap .i64 (7 * v16))] : List Int)).length) false), (13, AV.int .i64 v10)] [(0, .cells [AV.lst false false (List.map (AV.int .i64) v6), AV.int .i64 v15]), (3, .grow (List.map (AV.int .i64) (v12 ++ ([v14] : List Int)))), (4, .grow (List.map (AV.int .i64) (v13 ++ ([IntKind.wrap .i64 (v14 + IntKind.wrap .i64 (7 * v16))] : List Int))))] 5 (by simp [h2, h2_, h6, h6_, h7, h7_, h9, h10, h10_, h11]) (by simp [h2, h2_, h6, h6_, h7, h7_, h9, h10, h10_, h11]) (by simp) ?_
      refine AW.region mixed [] [none, none, none] (by kernel_rfl) fun G183 R183 hG183 hR183 => ?_
      try simp [h2, h2_, h6, h6_, h7, h7_, h9, h10, h10_, h11]
      repeat' apply And.intro
      any_goals (first | exact hG183 _ (by kernel_rfl) | refine hR183 _ _ _ ?_ | omega | (unfold maxLen; omega) | (simp [h2, h2_, h6, h6_, h7, h7_, h9, h10, h10_, h11]; done) | (simp [h2, h2_, h6, h6_, h7, h7_, h9, h10, h10_, h11]; omega))
      refine hK172 _ _ _ ?_
      refine Can.weak [(7, AV.ptr 0 0), (8, AV.lst false false (List.map (AV.int .i64) v8)), (9, AV.int .i64 (IntKind.wrap .i64 (1 + Int.tmod (IntKind.wrap .i64 v1) 9))), (10, AV.int .i64 (IntKind.wrap .i64 (1 + Int.tmod (IntKind.wrap .i64 v2) (IntKind.wrap .i64 (1 + Int.tmod (IntKind.wrap .i64 v1) 9))))), (11, AV.slc 3 0 1 ((v12 ++ ([v14] : List Int)).length) false), (12, AV.slc 4 0 1 ((v13 ++ ([IntKind.wrap .i64 (v14 + IntKind.wrap .i64 (7 * v16))] : List Int)).length) false), (13, AV.int .i64 (IntKind.wrap .i64 (v10 + 1)))] [(0, .cells [AV.lst false false (List.map (AV.int .i64) v6), AV.int .i64 v15]), (3, .grow (List.map (AV.int .i64) (v12 ++ ([v14] : List Int)))), (4, .grow (List.map (AV.int .i64) (v13 ++ ([IntKind.wrap .i64 (v14 + IntKind.wrap .i64 (7 * v16))] : List Int))))] 5 (by simp [h2, h2_, h6, h6_, h7, h7_, h9, h10, h10_, h11]) (by simp [h2, h2_, h6, h6_, h7, h7_, h9, h10, h10_, h11]) (by simp) ?_
      refine Can.ren (m := 0) h0 [(0, 0), (1, 3), (2, 4)] [(7, AV.ptr 0 0), (8, AV.lst false false (List.map (AV.int .i64) v8)), (9, AV.int .i64 (IntKind.wrap .i64 (1 + Int.tmod (IntKind.wrap .i64 v1) 9))), (10, AV.int .i64 (IntKind.wrap .i64 (1 + Int.tmod (IntKind.wrap .i64 v2) (IntKind.wrap .i64 (1 + Int.tmod (IntKind.wrap .i64 v1) 9))))), (11, AV.slc 1 0 1 ((v12 ++ ([v14] : List Int)).length) false), (12, AV.slc 2 0 1 ((v13 ++ ([IntKind.wrap .i64 (v14 + IntKind.wrap .i64 (7 * v16))] : List Int)).length) false), (13, AV.int .i64 (IntKind.wrap .i64 (v10 + 1)))] [(0, .cells [AV.lst false false (List.map (AV.int .i64) v6), AV.int .i64 v15]), (1, .grow (List.map (AV.int .i64) (v12 ++ ([v14] : List Int)))), (2, .grow (List.map (AV.int .i64) (v13 ++ ([IntKind.wrap .i64 (v14 + IntKind.wrap .i64 (7 * v16))] : List Int))))] 3 (by decide) (by decide) (by decide) rfl (by simp [h2, h2_, h6, h6_, h7, h7_, h9, h10, h10_, h11]) (by simp [h2, h2_, h6, h6_, h7, h7_, h9, h10, h10_, h11]) ?_
      exact Can.next (k' := n1) ((IntKind.wrap .i64 (v10 + 1), v15, v12 ++ ([v14] : List Int), v13 ++ ([IntKind.wrap .i64 (v14 + IntKind.wrap .i64 (7 * v16))] : List Int))) (by omega) hF (by simp [h2, h2_, h6, h6_, h7, h7_, h9, h10, h10_, h11]) (by simp [h2, h2_, h6, h6_, h7, h7_, h9, h10, h10_, h11]) (by simp)
    · replace hF := ite_f h7 hF
      have h7_ := h7
      try simp at h7_
      refine AW.condF (by decide) (by first | (simp [h2, h2_, h6, h6_, h7, h7_]; done) | (simp [h2, h2_, h6, h6_, h7, h7_]; omega)) ?_
      refine AW.exit ?_
      try simp
      refine hK148 _ _ _ ?_
      refine AW.seqR mixed [] [none, none, none, none, none, none, none, none, none] (by kernel_rfl) fun G184 R184 hG184 hR184 => ?_
      try simp [h2, h2_, h6, h6_, h7, h7_]
      repeat' apply And.intro
      try any_goals (first | omega | (unfold maxLen; omega) | (simp [h2, h2_, h6, h6_, h7, h7_]; done))
      obtain ⟨v17, v18, h12, hF⟩ := bnd2_elim hF
      refine aCall_l (w_committee_Draw k _ _ _ _ _ h12) (by simp) [] [1] [] rfl (.cons (.same (by simp [h2, h2_, h6, h6_, h7, h7_])) (.cons (Coe.l (o := .grow (List.map (AV.int .i64) v12)) (by simp [h2, h2_, h6, h6_, h7, h7_]) rfl (by simp [h2, h2_, h6, h6_, h7, h7_]) (by simp [noIdsL]) (by simp [h2, h2_, h6, h6_, h7, h7_]) (by simp [h2, h2_, h6, h6_, h7, h7_])) (.cons (.same (by simp [h2, h2_, h6, h6_, h7, h7_])) .nil))) (by simp [h2, h2_, h6, h6_, h7, h7_]) (by decide) (by simp) (by simp) (.inr ⟨by simp, by simp⟩) (by simp) (by simp) ?_
      try simp [h2, h2_, h6, h6_, h7, h7_]
      repeat' apply And.intro
      any_goals (first | exact hG184 _ (by kernel_rfl) | refine hR184 _ _ _ ?_ | omega | (unfold maxLen; omega) | (simp [h2, h2_, h6, h6_, h7, h7_]; done) | (simp [h2, h2_, h6, h6_, h7, h7_]; omega))
      refine AW.wk [(8, AV.lst false false (List.map (AV.int .i64) v8)), (9, AV.int .i64 (IntKind.wrap .i64 (1 + Int.tmod (IntKind.wrap .i64 v1) 9))), (10, AV.int .i64 (IntKind.wrap .i64 (1 + Int.tmod (IntKind.wrap .i64 v2) (IntKind.wrap .i64 (1 + Int.tmod (IntKind.wrap .i64 v1) 9))))), (11, AV.slc 1 0 1 v12.length false), (12, AV.slc 2 0 1 v13.length false), (15, AV.slc 3 0 1 v17.length false), (16, AV.int .i64 v18)] [(1, .grow (List.map (AV.int .i64) v12)), (2, .grow (List.map (AV.int .i64) v13)), (3, .grow (List.map (AV.int .i64) v17))] 4 (by simp [h2, h2_, h6, h6_, h7, h7_]) (by simp [h2, h2_, h6, h6_, h7, h7_]) (by simp) ?_
      refine AW.frz 3 (o := .grow (List.map (AV.int .i64) v17)) (by simp [h2, h2_, h6, h6_, h7, h7_]) rfl [(15, AV.lst false false (List.map (AV.int .i64) v17))] [] ⟨(.l (by simp) (by simp) (by simp) (by simp)), trivial⟩ trivial ?_
      refine AW.wk [(8, AV.lst false false (List.map (AV.int .i64) v8)), (9, AV.int .i64 (IntKind.wrap .i64 (1 + Int.tmod (IntKind.wrap .i64 v1) 9))), (10, AV.int .i64 (IntKind.wrap .i64 (1 + Int.tmod (IntKind.wrap .i64 v2) (IntKind.wrap .i64 (1 + Int.tmod (IntKind.wrap .i64 v1) 9))))), (11, AV.slc 1 0 1 v12.length false), (12, AV.slc 2 0 1 v13.length false), (15, AV.lst false false (List.map (AV.int .i64) v17)), (16, AV.int .i64 v18)] [(1, .grow (List.map (AV.int .i64) v12)), (2, .grow (List.map (AV.int .i64) v13))] 4 (by simp [h2, h2_, h6, h6_, h7, h7_]) (by simp [h2, h2_, h6, h6_, h7, h7_]) (by simp) ?_
      refine AW.seqR mixed [] [none, none, none, none, none, none, none, none, none] (by kernel_rfl) fun G185 R185 hG185 hR185 => ?_
      try simp [h2, h2_, h6, h6_, h7, h7_]
      repeat' apply And.intro
      try any_goals (first | omega | (unfold maxLen; omega) | (simp [h2, h2_, h6, h6_, h7, h7_]; done))
      obtain ⟨v19, v20, h13, hF⟩ := bnd2_elim hF
      refine aCall_l (w_committee_Draw k _ _ _ _ _ h13) (by simp) [] [1] [] rfl (.cons (.same (by simp [h2, h2_, h6, h6_, h7, h7_])) (.cons (Coe.l (o := .grow (List.map (AV.int .i64) v12)) (by simp [h2, h2_, h6, h6_, h7, h7_]) rfl (by simp [h2, h2_, h6, h6_, h7, h7_]) (by simp [noIdsL]) (by simp [h2, h2_, h6, h6_, h7, h7_]) (by simp [h2, h2_, h6, h6_, h7, h7_])) (.cons (.same (by simp [h2, h2_, h6, h6_, h7, h7_])) .nil))) (by simp [h2, h2_, h6, h6_, h7, h7_]) (by decide) (by simp) (by simp) (.inr ⟨by simp, by simp⟩) (by simp) (by simp) ?_
      try simp [h2, h2_, h6, h6_, h7, h7_]
      repeat' apply And.intro
      any_goals (first | exact hG185 _ (by kernel_rfl) | refine hR185 _ _ _ ?_ | omega | (unfold maxLen; omega) | (simp [h2, h2_, h6, h6_, h7, h7_]; done) | (simp [h2, h2_, h6, h6_, h7, h7_]; omega))
      refine AW.wk [(8, AV.lst false false (List.map (AV.int .i64) v8)), (9, AV.int .i64 (IntKind.wrap .i64 (1 + Int.tmod (IntKind.wrap .i64 v1) 9))), (12, AV.slc 2 0 1 v13.length false), (15, AV.lst false false (List.map (AV.int .i64) v17)), (16, AV.int .i64 v18), (17, AV.slc 4 0 1 v19.length false), (18, AV.int .i64 v20)] [(2, .grow (List.map (AV.int .i64) v13)), (4, .grow (List.map (AV.int .i64) v19))] 5 (by simp [h2, h2_, h6, h6_, h7, h7_]) (by simp [h2, h2_, h6, h6_, h7, h7_]) (by simp) ?_
      refine AW.frz 4 (o := .grow (List.map (AV.int .i64) v19)) (by simp [h2, h2_, h6, h6_, h7, h7_]) rfl [(17, AV.lst false false (List.map (AV.int .i64) v19))] [] ⟨(.l (by simp) (by simp) (by simp) (by simp)), trivial⟩ trivial ?_
      refine AW.wk [(8, AV.lst false false (List.map (AV.int .i64) v8)), (9, AV.int .i64 (IntKind.wrap .i64 (1 + Int.tmod (IntKind.wrap .i64 v1) 9))), (12, AV.slc 2 0 1 v13.length false), (15, AV.lst false false (List.map (AV.int .i64) v17)), (16, AV.int .i64 v18), (17, AV.lst false false (List.map (AV.int .i64) v19)), (18, AV.int .i64 v20)] [(2, .grow (List.map (AV.int .i64) v13))] 5 (by simp [h2, h2_, h6, h6_, h7, h7_]) (by simp [h2, h2_, h6, h6_, h7, h7_]) (by simp) ?_
      refine AW.seqR mixed [] [none, none, none, none, none, none, none, none, none] (by kernel_rfl) fun G186 R186 hG186 hR186 => ?_
      try simp [h2, h2_, h6, h6_, h7, h7_]
      repeat' apply And.intro
      try any_goals (first | omega | (unfold maxLen; omega) | (simp [h2, h2_, h6, h6_, h7, h7_]; done))
      obtain ⟨v21, v22, h14, hF⟩ := bnd2_elim hF
      refine aCall_l (w_committee_Draw k _ _ _ _ _ h14) (by simp) [] [2] [] rfl (.cons (.same (by simp [h2, h2_, h6, h6_, h7, h7_])) (.cons (Coe.l (o := .grow (List.map (AV.int .i64) v13)) (by simp [h2, h2_, h6, h6_, h7, h7_]) rfl (by simp [h2, h2_, h6, h6_, h7, h7_]) (by simp [noIdsL]) (by simp [h2, h2_, h6, h6_, h7, h7_]) (by simp [h2, h2_, h6, h6_, h7, h7_])) (.cons (.same (by simp [h2, h2_, h6, h6_, h7, h7_])) .nil))) (by simp [h2, h2_, h6, h6_, h7, h7_]) (by decide) (by simp) (by simp) (.inr ⟨by simp, by simp⟩) (by simp) (by simp) ?_
      try simp [h2, h2_, h6, h6_, h7, h7_]
      repeat' apply And.intro
      any_goals (first | exact hG186 _ (by kernel_rfl) | refine hR186 _ _ _ ?_ | omega | (unfold maxLen; omega) | (simp [h2, h2_, h6, h6_, h7, h7_]; done) | (simp [h2, h2_, h6, h6_, h7, h7_]; omega))
      refine AW.wk [(8, AV.lst false false (List.map (AV.int .i64) v8)), (9, AV.int .i64 (IntKind.wrap .i64 (1 + Int.tmod (IntKind.wrap .i64 v1) 9))), (15, AV.lst false false (List.map (AV.int .i64) v17)), (16, AV.int .i64 v18), (17, AV.lst false false (List.map (AV.int .i64) v19)), (18, AV.int .i64 v20), (19, AV.slc 5 0 1 v21.length false), (20, AV.int .i64 v22)] [(5, .grow (List.map (AV.int .i64) v21))] 6 (by simp [h2, h2_, h6, h6_, h7, h7_]) (by simp [h2, h2_, h6, h6_, h7, h7_]) (by simp) ?_
      refine AW.frz 5 (o := .grow (List.map (AV.int .i64) v21)) (by simp [h2, h2_, h6, h6_, h7, h7_]) rfl [(19, AV.lst false false (List.map (AV.int .i64) v21))] [] ⟨(.l (by simp) (by simp) (by simp) (by simp)), trivial⟩ trivial ?_
      refine AW.wk [(8, AV.lst false false (List.map (AV.int .i64) v8)), (9, AV.int .i64 (IntKind.wrap .i64 (1 + Int.tmod (IntKind.wrap .i64 v1) 9))), (15, AV.lst false false (List.map (AV.int .i64) v17)), (16, AV.int .i64 v18), (17, AV.lst false false (List.map (AV.int .i64) v19)), (18, AV.int .i64 v20), (19, AV.lst false false (List.map (AV.int .i64) v21)), (20, AV.int .i64 v22)] [] 6 (by simp [h2, h2_, h6, h6_, h7, h7_]) (by simp [h2, h2_, h6, h6_, h7, h7_]) (by simp) ?_
      refine AW.seq fun K194 hK194 => ?_
      refine AW.seqR mixed [] [none, none, none, some (82, false), some (82, false), none, none, some (86, false), some (86, false), none, none, some (90, false), some (90, false), some (90, false), some (90, false), some (90, false), none, none, some (97, false), some (97, false), some (97, false), some (97, false), some (97, false), some (97, false), some (97, false), none, none, some (106, false), some (106, false), some (106, false), some (106, false), none] (by kernel_rfl) fun G195 R195 hG195 hR195 => ?_
      by_cases h15 : v18 ≠ 0
      · replace hF := ite_t h15 hF
        have h15_ := eqb_f h15
        have h15__ := neb_t h15
        try simp [h2, h2_, h6, h6_, h7, h7_, h15, h15_, h15__]
        repeat' apply And.intro
        any_goals (first | exact hG195 _ (by kernel_rfl) | refine hR195 _ _ _ ?_ | omega | (unfold maxLen; omega) | (simp [h2, h2_, h6, h6_, h7, h7_, h15, h15_, h15__]; done) | (simp [h2, h2_, h6, h6_, h7, h7_, h15, h15_, h15__]; omega))
        refine AW.wk [(8, AV.lst false false (List.map (AV.int .i64) v8)), (9, AV.int .i64 (IntKind.wrap .i64 (1 + Int.tmod (IntKind.wrap .i64 v1) 9))), (15, AV.lst false false (List.map (AV.int .i64) v17)), (111, AV.bool true)] [] 6 (by simp [h2, h2_, h6, h6_, h7, h7_, h15, h15_, h15__]) (by simp [h2, h2_, h6, h6_, h7, h7_, h15, h15_, h15__]) (by simp) ?_
        refine AW.condT (by decide) (by simp [h2, h2_, h6, h6_, h7, h7_, h15, h15_, h15__]) ?_
        refine AW.seqR mixed [] [none] (by kernel_rfl) fun G196 R196 hG196 hR196 => ?_
        try simp [h2, h2_, h6, h6_, h7, h7_, h15, h15_, h15__]
        repeat' apply And.intro
        any_goals (first | exact hG196 _ (by kernel_rfl) | refine hR196 _ _ _ ?_ | omega | (unfold maxLen; omega) | (simp [h2, h2_, h6, h6_, h7, h7_, h15, h15_, h15__]; done) | (simp [h2, h2_, h6, h6_, h7, h7_, h15, h15_, h15__]; omega))
        refine AW.wk [(6, AV.bool false)] [] 6 (by simp [h2, h2_, h6, h6_, h7, h7_, h15, h15_, h15__]) (by simp [h2, h2_, h6, h6_, h7, h7_, h15, h15_, h15__]) (by simp) ?_
        simp only [Option.some.injEq] at hF
        subst hF
        refine AW.ret (hQ _ _ _ ?_ (matchO_0 ?_)).1
        · simp [Try.f10, h2, h2_, h6, h6_, h7, h7_, h15, h15_, h15__]
        · simp [h2, h2_, h6, h6_, h7, h7_, h15, h15_, h15__]
      · replace hF := ite_f h15 hF
        have h15q : v18 = 0 := Classical.not_not.1 h15
        have h15_ := eqb_t h15q
        have h15__ := neb_f h15q
        by_cases h16 : v20 ≠ 0
        · replace hF := ite_t h16 hF
          have h16_ := eqb_f h16
          have h16__ := neb_t h16
          try simp [h2, h2_, h6, h6_, h7, h7_, h15_, h15__, h15q, h16, h16_, h16__]
          repeat' apply And.intro
          any_goals (first | exact hG195 _ (by kernel_rfl) | refine hR195 _ _ _ ?_ | omega | (unfold maxLen; omega) | (simp [h2, h2_, h6, h6_, h7, h7_, h15_, h15__, h15q, h16, h16_, h16__]; done) | (simp [h2, h2_, h6, h6_, h7, h7_, h15_, h15__, h15q, h16, h16_, h16__]; omega))
          refine AW.wk [(8, AV.lst false false (List.map (AV.int .i64) v8)), (9, AV.int .i64 (IntKind.wrap .i64 (1 + Int.tmod (IntKind.wrap .i64 v1) 9))), (15, AV.lst false false (List.map (AV.int .i64) v17)), (111, AV.bool true)] [] 6 (by simp [h2, h2_, h6, h6_, h7, h7_, h15_, h15__, h15q, h16, h16_, h16__]) (by simp [h2, h2_, h6, h6_, h7, h7_, h15_, h15__, h15q, h16, h16_, h16__]) (by simp) ?_
          refine AW.condT (by decide) (by simp [h2, h2_, h6, h6_, h7, h7_, h15_, h15__, h15q, h16, h16_, h16__]) ?_
          refine AW.seqR mixed [] [none] (by kernel_rfl) fun G197 R197 hG197 hR197 => ?_
          try simp [h2, h2_, h6, h6_, h7, h7_, h15_, h15__, h15q, h16, h16_, h16__]
          repeat' apply And.intro
          any_goals (first | exact hG197 _ (by kernel_rfl) | refine hR197 _ _ _ ?_ | omega | (unfold maxLen; omega) | (simp [h2, h2_, h6, h6_, h7, h7_, h15_, h15__, h15q, h16, h16_, h16__]; done) | (simp [h2, h2_, h6, h6_, h7, h7_, h15_, h15__, h15q, h16, h16_, h16__]; omega))
          refine AW.wk [(6, AV.bool false)] [] 6 (by simp [h2, h2_, h6, h6_, h7, h7_, h15_, h15__, h15q, h16, h16_, h16__]) (by simp [h2, h2_, h6, h6_, h7, h7_, h15_, h15__, h15q, h16, h16_, h16__]) (by simp) ?_
          simp only [Option.some.injEq] at hF
          subst hF
          refine AW.ret (hQ _ _ _ ?_ (matchO_0 ?_)).1
          · simp [Try.f10, h2, h2_, h6, h6_, h7, h7_, h15_, h15__, h15q, h16, h16_, h16__]
          · simp [h2, h2_, h6, h6_, h7, h7_, h15_, h15__, h15q, h16, h16_, h16__]
        · replace hF := ite_f h16 hF
          have h16q : v20 = 0 := Classical.not_not.1 h16
          have h16_ := eqb_t h16q
          have h16__ := neb_f h16q
          by_cases h17 : v22 ≠ 0
          · replace hF := ite_t h17 hF
            have h17_ := eqb_f h17
            have h17__ := neb_t h17
            try simp [h2, h2_, h6, h6_, h7, h7_, h15_, h15__, h15q, h16_, h16__, h16q, h17, h17_, h17__]
            repeat' apply And.intro
            any_goals (first | exact hG195 _ (by kernel_rfl) | refine hR195 _ _ _ ?_ | omega | (unfold maxLen; omega) | (simp [h2, h2_, h6, h6_, h7, h7_, h15_, h15__, h15q, h16_, h16__, h16q, h17, h17_, h17__]; done) | (simp [h2, h2_, h6, h6_, h7, h7_, h15_, h15__, h15q, h16_, h16__, h16q, h17, h17_, h17__]; omega))
            refine AW.wk [(8, AV.lst false false (List.map (AV.int .i64) v8)), (9, AV.int .i64 (IntKind.wrap .i64 (1 + Int.tmod (IntKind.wrap .i64 v1) 9))), (15, AV.lst false false (List.map (AV.int .i64) v17)), (111, AV.bool true)] [] 6 (by simp [h2, h2_, h6, h6_, h7, h7_, h15_, h15__, h15q, h16_, h16__, h16q, h17, h17_, h17__]) (by simp [h2, h2_, h6, h6_, h7, h7_, h15_, h15__, h15q, h16_, h16__, h16q, h17, h17_, h17__]) (by simp) ?_
            refine AW.condT (by decide) (by simp [h2, h2_, h6, h6_, h7, h7_, h15_, h15__, h15q, h16_, h16__, h16q, h17, h17_, h17__]) ?_
            refine AW.seqR mixed [] [none] (by kernel_rfl) fun G198 R198 hG198 hR198 => ?_
            try simp [h2, h2_, h6, h6_, h7, h7_, h15_, h15__, h15q, h16_, h16__, h16q, h17, h17_, h17__]
            repeat' apply And.intro
            any_goals (first | exact hG198 _ (by kernel_rfl) | refine hR198 _ _ _ ?_ | omega | (unfold maxLen; omega) | (simp [h2, h2_, h6, h6_, h7, h7_, h15_, h15__, h15q, h16_, h16__, h16q, h17, h17_, h17__]; done) | (simp [h2, h2_, h6, h6_, h7, h7_, h15_, h15__, h15q, h16_, h16__, h16q, h17, h17_, h17__]; omega))
            refine AW.wk [(6, AV.bool false)] [] 6 (by simp [h2, h2_, h6, h6_, h7, h7_, h15_, h15__, h15q, h16_, h16__, h16q, h17, h17_, h17__]) (by simp [h2, h2_, h6, h6_, h7, h7_, h15_, h15__, h15q, h16_, h16__, h16q, h17, h17_, h17__]) (by simp) ?_
            simp only [Option.some.injEq] at hF
            subst hF
            refine AW.ret (hQ _ _ _ ?_ (matchO_0 ?_)).1
            · simp [Try.f10, h2, h2_, h6, h6_, h7, h7_, h15_, h15__, h15q, h16_, h16__, h16q, h17, h17_, h17__]
            · simp [h2, h2_, h6, h6_, h7, h7_, h15_, h15__, h15q, h16_, h16__, h16q, h17, h17_, h17__]
          · replace hF := ite_f h17 hF
            have h17q : v22 = 0 := Classical.not_not.1 h17
            have h17_ := eqb_t h17q
            have h17__ := neb_f h17q
            by_cases h18 : (v17.length : Int) < (v19.length : Int)
            · replace hF := ite_t h18 hF
              have h18_ := h18
              try simp at h18_
              try simp [h2, h2_, h6, h6_, h7, h7_, h15_, h15__, h15q, h16_, h16__, h16q, h17_, h17__, h17q, h18, h18_]
              repeat' apply And.intro
              any_goals (first | exact hG195 _ (by kernel_rfl) | refine hR195 _ _ _ ?_ | omega | (unfold maxLen; omega) | (simp [h2, h2_, h6, h6_, h7, h7_, h15_, h15__, h15q, h16_, h16__, h16q, h17_, h17__, h17q, h18, h18_]; done) | (simp [h2, h2_, h6, h6_, h7, h7_, h15_, h15__, h15q, h16_, h16__, h16q, h17_, h17__, h17q, h18, h18_]; omega))
              refine AW.wk [(8, AV.lst false false (List.map (AV.int .i64) v8)), (9, AV.int .i64 (IntKind.wrap .i64 (1 + Int.tmod (IntKind.wrap .i64 v1) 9))), (15, AV.lst false false (List.map (AV.int .i64) v17)), (111, AV.bool true)] [] 6 (by simp [h2, h2_, h6, h6_, h7, h7_, h15_, h15__, h15q, h16_, h16__, h16q, h17_, h17__, h17q, h18, h18_]) (by simp [h2, h2_, h6, h6_, h7, h7_, h15_, h15__, h15q, h16_, h16__, h16q, h17_, h17__, h17q, h18, h18_]) (by simp) ?_
              refine AW.condT (by decide) (by simp [h2, h2_, h6, h6_, h7, h7_, h15_, h15__, h15q, h16_, h16__, h16q, h17_, h17__, h17q, h18, h18_]) ?_
              refine AW.seqR mixed [] [none] (by kernel_rfl) fun G199 R199 hG199 hR199 => ?_
              try simp [h2, h2_, h6, h6_, h7, h7_, h15_, h15__, h15q, h16_, h16__, h16q, h17_, h17__, h17q, h18, h18_]
              repeat' apply And.intro
              any_goals (first | exact hG199 _ (by kernel_rfl) | refine hR199 _ _ _ ?_ | omega | (unfold maxLen; omega) | (simp [h2, h2_, h6, h6_, h7, h7_, h15_, h15__, h15q, h16_, h16__, h16q, h17_, h17__, h17q, h18, h18_]; done) | (simp [h2, h2_, h6, h6_, h7, h7_, h15_, h15__, h15q, h16_, h16__, h16q, h17_, h17__, h17q, h18, h18_]; omega))
              refine AW.wk [(6, AV.bool false)] [] 6 (by simp [h2, h2_, h6, h6_, h7, h7_, h15_, h15__, h15q, h16_, h16__, h16q, h17_, h17__, h17q, h18, h18_]) (by simp [h2, h2_, h6, h6_, h7, h7_, h15_, h15__, h15q, h16_, h16__, h16q, h17_, h17__, h17q, h18, h18_]) (by simp) ?_
              simp only [Option.some.injEq] at hF
              subst hF
              refine AW.ret (hQ _ _ _ ?_ (matchO_0 ?_)).1
              · simp [Try.f10, h2, h2_, h6, h6_, h7, h7_, h15_, h15__, h15q, h16_, h16__, h16q, h17_, h17__, h17q, h18, h18_]
              · simp [h2, h2_, h6, h6_, h7, h7_, h15_, h15__, h15q, h16_, h16__, h16q, h17_, h17__, h17q, h18, h18_]
            · replace hF := ite_f h18 hF
              have h18_ := h18
              try simp at h18_
              obtain ⟨⟨h19, h20⟩, hF⟩ := chk_elim hF
              have h19_ := h19
              try simp at h19_
              have h20_ := h20
              try simp at h20_
              try simp [h2, h2_, h6, h6_, h7, h7_, h15_, h15__, h15q, h16_, h16__, h16q, h17_, h17__, h17q, h18, h18_, h19, h20, h19_, h20_]
              repeat' apply And.intro
              try any_goals (first | omega | (unfold maxLen; omega) | (simp [h2, h2_, h6, h6_, h7, h7_, h15_, h15__, h15q, h16_, h16__, h16q, h17_, h17__, h17q, h18, h18_, h19, h20, h19_, h20_]; done))
              obtain ⟨v23, h21, hF⟩ := bnd1_elim hF
              refine aCall_l (w_ref23_SameInts k _ _ _ h21) (by simp) [] [] [] rfl (.cons (.same (by simp [h2, h2_, h6, h6_, h7, h7_, h15_, h15__, h15q, h16_, h16__, h16q, h17_, h17__, h17q, h18, h18_, h19, h20, h19_, h20_])) (.cons (.same (by simp [h2, h2_, h6, h6_, h7, h7_, h15_, h15__, h15q, h16_, h16__, h16q, h17_, h17__, h17q, h18, h18_, h19, h20, h19_, h20_])) .nil)) (by simp [h2, h2_, h6, h6_, h7, h7_, h15_, h15__, h15q, h16_, h16__, h16q, h17_, h17__, h17q, h18, h18_, h19, h20, h19_, h20_]) (by decide) (by simp) (by simp) (.inl rfl) (by simp) (by simp) ?_
              by_cases h22 : (!v23) = true
              · replace hF := ite_t h22 hF
                have h22_ := h22
                try simp at h22_
                try simp [h2, h2_, h6, h6_, h7, h7_, h15_, h15__, h15q, h16_, h16__, h16q, h17_, h17__, h17q, h18, h18_, h19, h20, h19_, h20_, h22, h22_]
                repeat' apply And.intro
                any_goals (first | exact hG195 _ (by kernel_rfl) | refine hR195 _ _ _ ?_ | omega | (unfold maxLen; omega) | (simp [h2, h2_, h6, h6_, h7, h7_, h15_, h15__, h15q, h16_, h16__, h16q, h17_, h17__, h17q, h18, h18_, h19, h20, h19_, h20_, h22, h22_]; done) | (simp [h2, h2_, h6, h6_, h7, h7_, h15_, h15__, h15q, h16_, h16__, h16q, h17_, h17__, h17q, h18, h18_, h19, h20, h19_, h20_, h22, h22_]; omega))
                refine AW.wk [(8, AV.lst false false (List.map (AV.int .i64) v8)), (9, AV.int .i64 (IntKind.wrap .i64 (1 + Int.tmod (IntKind.wrap .i64 v1) 9))), (15, AV.lst false false (List.map (AV.int .i64) v17)), (111, AV.bool true)] [] 6 (by simp [h2, h2_, h6, h6_, h7, h7_, h15_, h15__, h15q, h16_, h16__, h16q, h17_, h17__, h17q, h18, h18_, h19, h20, h19_, h20_, h22, h22_]) (by simp [h2, h2_, h6, h6_, h7, h7_, h15_, h15__, h15q, h16_, h16__, h16q, h17_, h17__, h17q, h18, h18_, h19, h20, h19_, h20_, h22, h22_]) (by simp) ?_
                refine AW.condT (by decide) (by simp [h2, h2_, h6, h6_, h7, h7_, h15_, h15__, h15q, h16_, h16__, h16q, h17_, h17__, h17q, h18, h18_, h19, h20, h19_, h20_, h22, h22_]) ?_
                refine AW.seqR mixed [] [none] (by kernel_rfl) fun G200 R200 hG200 hR200 => ?_
                try simp [h2, h2_, h6, h6_, h7, h7_, h15_, h15__, h15q, h16_, h16__, h16q, h17_, h17__, h17q, h18, h18_, h19, h20, h19_, h20_, h22, h22_]
                repeat' apply And.intro
                any_goals (first | exact hG200 _ (by kernel_rfl) | refine hR200 _ _ _ ?_ | omega | (unfold maxLen; omega) | (simp [h2, h2_, h6, h6_, h7, h7_, h15_, h15__, h15q, h16_, h16__, h16q, h17_, h17__, h17q, h18, h18_, h19, h20, h19_, h20_, h22, h22_]; done) | (simp [h2, h2_, h6, h6_, h7, h7_, h15_, h15__, h15q, h16_, h16__, h16q, h17_, h17__, h17q, h18, h18_, h19, h20, h19_, h20_, h22, h22_]; omega))
                refine AW.wk [(6, AV.bool false)] [] 6 (by simp [h2, h2_, h6, h6_, h7, h7_, h15_, h15__, h15q, h16_, h16__, h16q, h17_, h17__, h17q, h18, h18_, h19, h20, h19_, h20_, h22, h22_]) (by simp [h2, h2_, h6, h6_, h7, h7_, h15_, h15__, h15q, h16_, h16__, h16q, h17_, h17__, h17q, h18, h18_, h19, h20, h19_, h20_, h22, h22_]) (by simp) ?_
                simp only [Option.some.injEq] at hF
                subst hF
                refine AW.ret (hQ _ _ _ ?_ (matchO_0 ?_)).1
                · simp [Try.f10, h2, h2_, h6, h6_, h7, h7_, h15_, h15__, h15q, h16_, h16__, h16q, h17_, h17__, h17q, h18, h18_, h19, h20, h19_, h20_, h22, h22_]
                · simp [h2, h2_, h6, h6_, h7, h7_, h15_, h15__, h15q, h16_, h16__, h16q, h17_, h17__, h17q, h18, h18_, h19, h20, h19_, h20_, h22, h22_]
              · replace hF := ite_f h22 hF
                have h22_ := h22
                try simp at h22_
                try simp [h2, h2_, h6, h6_, h7, h7_, h15_, h15__, h15q, h16_, h16__, h16q, h17_, h17__, h17q, h18, h18_, h19, h20, h19_, h20_, h22, h22_]
                repeat' apply And.intro
                try any_goals (first | omega | (unfold maxLen; omega) | (simp [h2, h2_, h6, h6_, h7, h7_, h15_, h15__, h15q, h16_, h16__, h16q, h17_, h17__, h17q, h18, h18_, h19, h20, h19_, h20_, h22, h22_]; done))
                obtain ⟨v24, h23, hF⟩ := bnd1_elim hF
                refine aCall_l (w_ref23_SameInts k _ _ _ h23) (by simp) [] [] [] rfl (.cons (.same (by simp [h2, h2_, h6, h6_, h7, h7_, h15_, h15__, h15q, h16_, h16__, h16q, h17_, h17__, h17q, h18, h18_, h19, h20, h19_, h20_, h22, h22_])) (.cons (.same (by simp [h2, h2_, h6, h6_, h7, h7_, h15_, h15__, h15q, h16_, h16__, h16q, h17_, h17__, h17q, h18, h18_, h19, h20, h19_, h20_, h22, h22_])) .nil)) (by simp [h2, h2_, h6, h6_, h7, h7_, h15_, h15__, h15q, h16_, h16__, h16q, h17_, h17__, h17q, h18, h18_, h19, h20, h19_, h20_, h22, h22_]) (by decide) (by simp) (by simp) (.inl rfl) (by simp) (by simp) ?_
                try simp [h2, h2_, h6, h6_, h7, h7_, h15_, h15__, h15q, h16_, h16__, h16q, h17_, h17__, h17q, h18, h18_, h19, h20, h19_, h20_, h22, h22_]
                repeat' apply And.intro
                any_goals (first | exact hG195 _ (by kernel_rfl) | refine hR195 _ _ _ ?_ | omega | (unfold maxLen; omega) | (simp [h2, h2_, h6, h6_, h7, h7_, h15_, h15__, h15q, h16_, h16__, h16q, h17_, h17__, h17q, h18, h18_, h19, h20, h19_, h20_, h22, h22_]; done) | (simp [h2, h2_, h6, h6_, h7, h7_, h15_, h15__, h15q, h16_, h16__, h16q, h17_, h17__, h17q, h18, h18_, h19, h20, h19_, h20_, h22, h22_]; omega))
                refine AW.wk [(8, AV.lst false false (List.map (AV.int .i64) v8)), (9, AV.int .i64 (IntKind.wrap .i64 (1 + Int.tmod (IntKind.wrap .i64 v1) 9))), (15, AV.lst false false (List.map (AV.int .i64) v17)), (111, AV.bool (!v24))] [] 6 (by simp [h2, h2_, h6, h6_, h7, h7_, h15_, h15__, h15q, h16_, h16__, h16q, h17_, h17__, h17q, h18, h18_, h19, h20, h19_, h20_, h22, h22_]) (by simp [h2, h2_, h6, h6_, h7, h7_, h15_, h15__, h15q, h16_, h16__, h16q, h17_, h17__, h17q, h18, h18_, h19, h20, h19_, h20_, h22, h22_]) (by simp) ?_
                by_cases h24 : (!v24) = true
                · replace hF := ite_t h24 hF
                  have h24_ := h24
                  try simp at h24_
                  refine AW.condT (by decide) (by first | (simp [h2, h2_, h6, h6_, h7, h7_, h15_, h15__, h15q, h16_, h16__, h16q, h17_, h17__, h17q, h18, h18_, h19, h20, h19_, h20_, h22, h22_, h24, h24_]; done) | (simp [h2, h2_, h6, h6_, h7, h7_, h15_, h15__, h15q, h16_, h16__, h16q, h17_, h17__, h17q, h18, h18_, h19, h20, h19_, h20_, h22, h22_, h24, h24_]; omega)) ?_
                  refine AW.seqR mixed [] [none] (by kernel_rfl) fun G201 R201 hG201 hR201 => ?_
                  try simp [h2, h2_, h6, h6_, h7, h7_, h15_, h15__, h15q, h16_, h16__, h16q, h17_, h17__, h17q, h18, h18_, h19, h20, h19_, h20_, h22, h22_, h24, h24_]
                  repeat' apply And.intro
                  any_goals (first | exact hG201 _ (by kernel_rfl) | refine hR201 _ _ _ ?_ | omega | (unfold maxLen; omega) | (simp [h2, h2_, h6, h6_, h7, h7_, h15_, h15__, h15q, h16_, h16__, h16q, h17_, h17__, h17q, h18, h18_, h19, h20, h19_, h20_, h22, h22_, h24, h24_]; done) | (simp [h2, h2_, h6, h6_, h7, h7_, h15_, h15__, h15q, h16_, h16__, h16q, h17_, h17__, h17q, h18, h18_, h19, h20, h19_, h20_, h22, h22_, h24, h24_]; omega))
                  refine AW.wk [(6, AV.bool false)] [] 6 (by simp [h2, h2_, h6, h6_, h7, h7_, h15_, h15__, h15q, h16_, h16__, h16q, h17_, h17__, h17q, h18, h18_, h19, h20, h19_, h20_, h22, h22_, h24, h24_]) (by simp [h2, h2_, h6, h6_, h7, h7_, h15_, h15__, h15q, h16_, h16__, h16q, h17_, h17__, h17q, h18, h18_, h19, h20, h19_, h20_, h22, h22_, h24, h24_]) (by simp) ?_
                  simp only [Option.some.injEq] at hF
                  subst hF
                  refine AW.ret (hQ _ _ _ ?_ (matchO_0 ?_)).1
                  · simp [Try.f10, h2, h2_, h6, h6_, h7, h7_, h15_, h15__, h15q, h16_, h16__, h16q, h17_, h17__, h17q, h18, h18_, h19, h20, h19_, h20_, h22, h22_, h24, h24_]
                  · simp [h2, h2_, h6, h6_, h7, h7_, h15_, h15__, h15q, h16_, h16__, h16q, h17_, h17__, h17q, h18, h18_, h19, h20, h19_, h20_, h22, h22_, h24, h24_]
                · replace hF := ite_f h24 hF
                  have h24_ := h24
                  try simp at h24_
                  refine AW.condF (by decide) (by first | (simp [h2, h2_, h6, h6_, h7, h7_, h15_, h15__, h15q, h16_, h16__, h16q, h17_, h17__, h17q, h18, h18_, h19, h20, h19_, h20_, h22, h22_, h24, h24_]; done) | (simp [h2, h2_, h6, h6_, h7, h7_, h15_, h15__, h15q, h16_, h16__, h16q, h17_, h17__, h17q, h18, h18_, h19, h20, h19_, h20_, h22, h22_, h24, h24_]; omega)) ?_
                  refine AW.skip ?_
                  refine hK194 _ _ _ ?_
                  refine AW.seqR mixed [] [none, none, none, none, none, some (116, false), some (116, false), some (116, false), some (116, false), none, none, some (122, true), none, none] (by kernel_rfl) fun G202 R202 hG202 hR202 => ?_
                  by_cases h25 : IntKind.wrap .i64 (1 + Int.tmod (IntKind.wrap .i64 v1) 9) < (v8.length : Int)
                  · replace hF := ite_t h25 hF
                    have h25_ := h25
                    try simp at h25_
                    try simp [h2, h2_, h6, h6_, h7, h7_, h15_, h15__, h15q, h16_, h16__, h16q, h17_, h17__, h17q, h18, h18_, h19, h20, h19_, h20_, h22, h22_, h24, h24_, h25, h25_]
                    repeat' apply And.intro
                    try any_goals (first | omega | (unfold maxLen; omega) | (simp [h2, h2_, h6, h6_, h7, h7_, h15_, h15__, h15q, h16_, h16__, h16q, h17_, h17__, h17q, h18, h18_, h19, h20, h19_, h20_, h22, h22_, h24, h24_, h25, h25_]; done))
                    obtain ⟨v25, h26, hF⟩ := bnd1_elim hF
                    refine aCall_l (w_law26_awake k _ h26) (by simp) [] [] [] rfl .nil (by simp [h2, h2_, h6, h6_, h7, h7_, h15_, h15__, h15q, h16_, h16__, h16q, h17_, h17__, h17q, h18, h18_, h19, h20, h19_, h20_, h22, h22_, h24, h24_, h25, h25_]) (by decide) (by simp) (by simp) (.inl rfl) (by simp) (by simp) ?_
                    try simp [h2, h2_, h6, h6_, h7, h7_, h15_, h15__, h15q, h16_, h16__, h16q, h17_, h17__, h17q, h18, h18_, h19, h20, h19_, h20_, h22, h22_, h24, h24_, h25, h25_]
                    repeat' apply And.intro
                    any_goals (first | exact hG202 _ (by kernel_rfl) | refine hR202 _ _ _ ?_ | omega | (unfold maxLen; omega) | (simp [h2, h2_, h6, h6_, h7, h7_, h15_, h15__, h15q, h16_, h16__, h16q, h17_, h17__, h17q, h18, h18_, h19, h20, h19_, h20_, h22, h22_, h24, h24_, h25, h25_]; done) | (simp [h2, h2_, h6, h6_, h7, h7_, h15_, h15__, h15q, h16_, h16__, h16q, h17_, h17__, h17q, h18, h18_, h19, h20, h19_, h20_, h22, h22_, h24, h24_, h25, h25_]; omega))
                    refine AW.wk [(6, AV.bool v25)] [] 6 (by simp [h2, h2_, h6, h6_, h7, h7_, h15_, h15__, h15q, h16_, h16__, h16q, h17_, h17__, h17q, h18, h18_, h19, h20, h19_, h20_, h22, h22_, h24, h24_, h25, h25_]) (by simp [h2, h2_, h6, h6_, h7, h7_, h15_, h15__, h15q, h16_, h16__, h16q, h17_, h17__, h17q, h18, h18_, h19, h20, h19_, h20_, h22, h22_, h24, h24_, h25, h25_]) (by simp) ?_
                    simp only [Option.some.injEq] at hF
                    subst hF
                    refine AW.ret (hQ _ _ _ ?_ (matchO_0 ?_)).1
                    · simp [Try.f10, h2, h2_, h6, h6_, h7, h7_, h15_, h15__, h15q, h16_, h16__, h16q, h17_, h17__, h17q, h18, h18_, h19, h20, h19_, h20_, h22, h22_, h24, h24_, h25, h25_]
                    · simp [h2, h2_, h6, h6_, h7, h7_, h15_, h15__, h15q, h16_, h16__, h16q, h17_, h17__, h17q, h18, h18_, h19, h20, h19_, h20_, h22, h22_, h24, h24_, h25, h25_]
                  · replace hF := ite_f h25 hF
                    have h25_ := h25
                    try simp at h25_
                    try simp [h2, h2_, h6, h6_, h7, h7_, h15_, h15__, h15q, h16_, h16__, h16q, h17_, h17__, h17q, h18, h18_, h19, h20, h19_, h20_, h22, h22_, h24, h24_, h25, h25_]
                    repeat' apply And.intro
                    try any_goals (first | omega | (unfold maxLen; omega) | (simp [h2, h2_, h6, h6_, h7, h7_, h15_, h15__, h15q, h16_, h16__, h16q, h17_, h17__, h17q, h18, h18_, h19, h20, h19_, h20_, h22, h22_, h24, h24_, h25, h25_]; done))
                    obtain ⟨v26, h27, hF⟩ := bnd1_elim hF
                    refine aCall_l (w_ref24_Join k _ _ _ h27) (by simp) [] [] [] rfl (.cons (.same (by simp [h2, h2_, h6, h6_, h7, h7_, h15_, h15__, h15q, h16_, h16__, h16q, h17_, h17__, h17q, h18, h18_, h19, h20, h19_, h20_, h22, h22_, h24, h24_, h25, h25_])) (.cons (Coe.fl (by simp [h2, h2_, h6, h6_, h7, h7_, h15_, h15__, h15q, h16_, h16__, h16q, h17_, h17__, h17q, h18, h18_, h19, h20, h19_, h20_, h22, h22_, h24, h24_, h25, h25_])) .nil)) (by simp [h2, h2_, h6, h6_, h7, h7_, h15_, h15__, h15q, h16_, h16__, h16q, h17_, h17__, h17q, h18, h18_, h19, h20, h19_, h20_, h22, h22_, h24, h24_, h25, h25_]) (by decide) (by simp) (by simp) (.inl rfl) (by simp) (by simp) ?_
                    try simp [h2, h2_, h6, h6_, h7, h7_, h15_, h15__, h15q, h16_, h16__, h16q, h17_, h17__, h17q, h18, h18_, h19, h20, h19_, h20_, h22, h22_, h24, h24_, h25, h25_]
                    repeat' apply And.intro
                    try any_goals (first | omega | (unfold maxLen; omega) | (simp [h2, h2_, h6, h6_, h7, h7_, h15_, h15__, h15q, h16_, h16__, h16q, h17_, h17__, h17q, h18, h18_, h19, h20, h19_, h20_, h22, h22_, h24, h24_, h25, h25_]; done))
                    obtain ⟨v27, h28, hF⟩ := bnd1_elim hF
                    refine aCall_l (w_ref23_SameInts k _ _ _ h28) (by simp) [] [6] [] rfl (.cons (Coe.l (o := .grow (List.map (AV.int .i64) v26)) (by simp [h2, h2_, h6, h6_, h7, h7_, h15_, h15__, h15q, h16_, h16__, h16q, h17_, h17__, h17q, h18, h18_, h19, h20, h19_, h20_, h22, h22_, h24, h24_, h25, h25_]) rfl (by simp [h2, h2_, h6, h6_, h7, h7_, h15_, h15__, h15q, h16_, h16__, h16q, h17_, h17__, h17q, h18, h18_, h19, h20, h19_, h20_, h22, h22_, h24, h24_, h25, h25_]) (by simp [noIdsL]) (by simp [h2, h2_, h6, h6_, h7, h7_, h15_, h15__, h15q, h16_, h16__, h16q, h17_, h17__, h17q, h18, h18_, h19, h20, h19_, h20_, h22, h22_, h24, h24_, h25, h25_]) (by simp [h2, h2_, h6, h6_, h7, h7_, h15_, h15__, h15q, h16_, h16__, h16q, h17_, h17__, h17q, h18, h18_, h19, h20, h19_, h20_, h22, h22_, h24, h24_, h25, h25_])) (.cons (.same (by simp [h2, h2_, h6, h6_, h7, h7_, h15_, h15__, h15q, h16_, h16__, h16q, h17_, h17__, h17q, h18, h18_, h19, h20, h19_, h20_, h22, h22_, h24, h24_, h25, h25_])) .nil)) (by simp [h2, h2_, h6, h6_, h7, h7_, h15_, h15__, h15q, h16_, h16__, h16q, h17_, h17__, h17q, h18, h18_, h19, h20, h19_, h20_, h22, h22_, h24, h24_, h25, h25_]) (by decide) (by simp) (by simp) (.inr ⟨by simp, by simp⟩) (by simp) (by simp) ?_
                    by_cases h29 : v27 = true
                    · replace hF := ite_t h29 hF
                      have h29_ := h29
                      try simp at h29_
                      try simp [h2, h2_, h6, h6_, h7, h7_, h15_, h15__, h15q, h16_, h16__, h16q, h17_, h17__, h17q, h18, h18_, h19, h20, h19_, h20_, h22, h22_, h24, h24_, h25, h25_, h29, h29_]
                      repeat' apply And.intro
                      try any_goals (first | omega | (unfold maxLen; omega) | (simp [h2, h2_, h6, h6_, h7, h7_, h15_, h15__, h15q, h16_, h16__, h16q, h17_, h17__, h17q, h18, h18_, h19, h20, h19_, h20_, h22, h22_, h24, h24_, h25, h25_, h29, h29_]; done))
                      obtain ⟨v28, h30, hF⟩ := bnd1_elim hF
                      refine aCall_l (w_law26_awake k _ h30) (by simp) [] [] [] rfl .nil (by simp [h2, h2_, h6, h6_, h7, h7_, h15_, h15__, h15q, h16_, h16__, h16q, h17_, h17__, h17q, h18, h18_, h19, h20, h19_, h20_, h22, h22_, h24, h24_, h25, h25_, h29, h29_]) (by decide) (by simp) (by simp) (.inl rfl) (by simp) (by simp) ?_
                      try simp [h2, h2_, h6, h6_, h7, h7_, h15_, h15__, h15q, h16_, h16__, h16q, h17_, h17__, h17q, h18, h18_, h19, h20, h19_, h20_, h22, h22_, h24, h24_, h25, h25_, h29, h29_]
                      repeat' apply And.intro
                      any_goals (first | exact hG202 _ (by kernel_rfl) | refine hR202 _ _ _ ?_ | omega | (unfold maxLen; omega) | (simp [h2, h2_, h6, h6_, h7, h7_, h15_, h15__, h15q, h16_, h16__, h16q, h17_, h17__, h17q, h18, h18_, h19, h20, h19_, h20_, h22, h22_, h24, h24_, h25, h25_, h29, h29_]; done) | (simp [h2, h2_, h6, h6_, h7, h7_, h15_, h15__, h15q, h16_, h16__, h16q, h17_, h17__, h17q, h18, h18_, h19, h20, h19_, h20_, h22, h22_, h24, h24_, h25, h25_, h29, h29_]; omega))
                      refine AW.wk [(6, AV.bool v28)] [] 7 (by simp [h2, h2_, h6, h6_, h7, h7_, h15_, h15__, h15q, h16_, h16__, h16q, h17_, h17__, h17q, h18, h18_, h19, h20, h19_, h20_, h22, h22_, h24, h24_, h25, h25_, h29, h29_]) (by simp [h2, h2_, h6, h6_, h7, h7_, h15_, h15__, h15q, h16_, h16__, h16q, h17_, h17__, h17q, h18, h18_, h19, h20, h19_, h20_, h22, h22_, h24, h24_, h25, h25_, h29, h29_]) (by simp) ?_
                      simp only [Option.some.injEq] at hF
                      subst hF
                      refine AW.ret (hQ _ _ _ ?_ (matchO_0 ?_)).1
                      · simp [Try.f10, h2, h2_, h6, h6_, h7, h7_, h15_, h15__, h15q, h16_, h16__, h16q, h17_, h17__, h17q, h18, h18_, h19, h20, h19_, h20_, h22, h22_, h24, h24_, h25, h25_, h29, h29_]
                      · simp [h2, h2_, h6, h6_, h7, h7_, h15_, h15__, h15q, h16_, h16__, h16q, h17_, h17__, h17q, h18, h18_, h19, h20, h19_, h20_, h22, h22_, h24, h24_, h25, h25_, h29, h29_]
                    · replace hF := ite_f h29 hF
                      have h29_ := h29
                      try simp at h29_
                      try simp [h2, h2_, h6, h6_, h7, h7_, h15_, h15__, h15q, h16_, h16__, h16q, h17_, h17__, h17q, h18, h18_, h19, h20, h19_, h20_, h22, h22_, h24, h24_, h25, h25_, h29, h29_]
                      repeat' apply And.intro
                      any_goals (first | exact hG202 _ (by kernel_rfl) | refine hR202 _ _ _ ?_ | omega | (unfold maxLen; omega) | (simp [h2, h2_, h6, h6_, h7, h7_, h15_, h15__, h15q, h16_, h16__, h16q, h17_, h17__, h17q, h18, h18_, h19, h20, h19_, h20_, h22, h22_, h24, h24_, h25, h25_, h29, h29_]; done) | (simp [h2, h2_, h6, h6_, h7, h7_, h15_, h15__, h15q, h16_, h16__, h16q, h17_, h17__, h17q, h18, h18_, h19, h20, h19_, h20_, h22, h22_, h24, h24_, h25, h25_, h29, h29_]; omega))
                      refine AW.wk [(6, AV.bool false)] [] 7 (by simp [h2, h2_, h6, h6_, h7, h7_, h15_, h15__, h15q, h16_, h16__, h16q, h17_, h17__, h17q, h18, h18_, h19, h20, h19_, h20_, h22, h22_, h24, h24_, h25, h25_, h29, h29_]) (by simp [h2, h2_, h6, h6_, h7, h7_, h15_, h15__, h15q, h16_, h16__, h16q, h17_, h17__, h17q, h18, h18_, h19, h20, h19_, h20_, h22, h22_, h24, h24_, h25, h25_, h29, h29_]) (by simp) ?_
                      simp only [Option.some.injEq] at hF
                      subst hF
                      refine AW.ret (hQ _ _ _ ?_ (matchO_0 ?_)).1
                      · simp [Try.f10, h2, h2_, h6, h6_, h7, h7_, h15_, h15__, h15q, h16_, h16__, h16q, h17_, h17__, h17q, h18, h18_, h19, h20, h19_, h20_, h22, h22_, h24, h24_, h25, h25_, h29, h29_]
                      · simp [h2, h2_, h6, h6_, h7, h7_, h15_, h15__, h15q, h16_, h16__, h16q, h17_, h17__, h17q, h18, h18_, h19, h20, h19_, h20_, h22, h22_, h24, h24_, h25, h25_, h29, h29_]
end Go.TF
