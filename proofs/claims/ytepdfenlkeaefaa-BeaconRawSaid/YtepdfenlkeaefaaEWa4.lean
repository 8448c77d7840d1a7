/- Walks: the Go text computes the Lean functions (printed by a program of our own). -/
import Derived.Test.YtepdfenlkeaefaaEPu
import Derived.Test.YtepdfenlkeaefaaEAbsT
import Derived.Test.YtepdfenlkeaefaaEWa0
import Derived.Test.YtepdfenlkeaefaaEWa1
import Derived.Test.YtepdfenlkeaefaaEWa3
set_option linter.unusedVariables false
set_option linter.unusedSimpArgs false
set_option maxRecDepth 100000
namespace Go.TF
open Go Go.Abs Go.Proofs Go.Proofs.YtepdfenlkeaefaaET
set_option maxHeartbeats 4000000 in
theorem w_beacon_bytes_v3 (k : Nat) (v0 : (List Int)) (v1 : (List Int)) (hF : beacon_bytes_v3 k v0 = some v1) :
    FCall Try.prog 82 [AV.lst true true (List.map (AV.int .u8) ([] : List Int)), AV.lst false false (List.map (AV.int .i64) v0)] [] (AV.slc 0 0 1 v1.length false) [some (.grow (List.map (AV.int .u8) v1))] := by
  unfold beacon_bytes_v3 at hF
  refine FCall.enter Try.func82 rfl (by simp) (by decide) (by simp) (by simp) (by simp) (by simp) (by simp) ?_
  intro c0 w0 Q h0 hQ
  refine AW.wk [(0, AV.lst true true (List.map (AV.int .u8) ([] : List Int))), (1, AV.lst false false (List.map (AV.int .i64) v0))] [] 0 (by simp) (by simp) (by simp) ?_
  refine AW.seqR mixed [] [none] (by kernel_rfl) fun G536 R536 hG536 hR536 => ?_
  try simp
  repeat' apply And.intro
  any_goals (first | exact hG536 _ (by kernel_rfl) | refine hR536 _ _ _ ?_ | omega | (unfold maxLen; omega) | (simp; done) | (simp; omega))
  refine AW.wk [(0, AV.lst true true (List.map (AV.int .u8) ([] : List Int))), (1, AV.lst false false (List.map (AV.int .i64) v0))] [] 0 (by simp) (by simp) (by simp) ?_
  refine AW.seq fun K803 hK803 => ?_
  refine AW.seqR mixed [] [none, none, none] (by kernel_rfl) fun G804 R804 hG804 hR804 => ?_
  try simp
  repeat' apply And.intro
  any_goals (first | exact hG804 _ (by kernel_rfl) | refine hR804 _ _ _ ?_ | omega | (unfold maxLen; omega) | (simp; done) | (simp; omega))
  refine AW.wk [(0, AV.lst true true (List.map (AV.int .u8) ([] : List Int))), (8, AV.lst false false (List.map (AV.int .i64) v0)), (9, AV.int .i64 (v0.length : Int)), (10, AV.int .i64 0)] [] 0 (by simp) (by simp) (by simp) ?_
  refine AW.block ?_
  refine AW.own' 0 1 true (by simp) (by decide) ?_
  refine AW.loopF (α := (Int × (List Int))) (fun n (v2, v3) => beacon_bytes_v3.L1 k v0 n v2 v3 = some v1) (fun (v2, v3) => [(0, AV.slc 0 0 1 v3.length false), (8, AV.lst false false (List.map (AV.int .i64) v0)), (9, AV.int .i64 (v0.length : Int)), (10, AV.int .i64 v2)]) (fun (v2, v3) => [(0, .grow (List.map (AV.int .u8) v3))]) 1 k ((0, ([] : List Int))) hF (by simp) (by simp) (by simp) ?_
  rintro (_|n1) ⟨v2, v3⟩ hF K1003 hK1003
  · try dsimp only at hF
    rw [beacon_bytes_v3.L1] at hF; cases hF
  try dsimp only at hF
  rw [beacon_bytes_v3.L1] at hF
  refine AW.seqR mixed [] [none] (by kernel_rfl) fun G1004 R1004 hG1004 hR1004 => ?_
  try simp
  repeat' apply And.intro
  any_goals (first | exact hG1004 _ (by kernel_rfl) | refine hR1004 _ _ _ ?_ | omega | (unfold maxLen; omega) | (simp; done) | (simp; omega))
  refine AW.wk [(0, AV.slc 0 0 1 v3.length false), (8, AV.lst false false (List.map (AV.int .i64) v0)), (9, AV.int .i64 (v0.length : Int)), (10, AV.int .i64 v2), (11, AV.bool (decide (v2 < (v0.length : Int))))] [(0, .grow (List.map (AV.int .u8) v3))] 1 (by simp) (by simp) (by simp) ?_
  refine AW.seq fun K1005 hK1005 => ?_
  by_cases h1 : v2 < (v0.length : Int)
  · replace hF := ite_t h1 hF
    have h1_ := h1
    try simp at h1_
    refine AW.condT (by decide) (by first | (simp [h1, h1_]; done) | (simp [h1, h1_]; omega)) ?_
    refine AW.skip ?_
    refine hK1005 _ _ _ ?_
    refine AW.seq fun K1037 hK1037 => ?_
    refine AW.block ?_
    refine AW.seqR mixed [] [none, none, none] (by kernel_rfl) fun G1038 R1038 hG1038 hR1038 => ?_
    obtain ⟨v4, h2, h3, h4, hF⟩ := idx_elim hF
    have h4_ := get_of h4
    try simp at h4_
    have h3_ := h3
    try simp at h3_
    try simp [h1, h1_, h2, h3, h4, h4_, h3_]
    repeat' apply And.intro
    any_goals (first | exact hG1038 _ (by kernel_rfl) | refine hR1038 _ _ _ ?_ | omega | (unfold maxLen; omega) | (simp [h1, h1_, h2, h3, h4, h4_, h3_]; done) | (simp [h1, h1_, h2, h3, h4, h4_, h3_]; omega))
    refine AW.wk [(0, AV.slc 0 0 1 v3.length false), (6, AV.int .i64 v4), (8, AV.lst false false (List.map (AV.int .i64) v0)), (9, AV.int .i64 (v0.length : Int)), (10, AV.int .i64 v2)] [(0, .grow (List.map (AV.int .u8) v3))] 1 (by simp [h1, h1_, h2, h3, h4, h4_, h3_]) (by simp [h1, h1_, h2, h3, h4, h4_, h3_]) (by simp) ?_
    refine AW.seqR mixed [] [none] (by kernel_rfl) fun G1039 R1039 hG1039 hR1039 => ?_
    try simp [h1, h1_, h2, h3, h4, h4_, h3_]
    repeat' apply And.intro
    any_goals (first | exact hG1039 _ (by kernel_rfl) | refine hR1039 _ _ _ ?_ | omega | (unfold maxLen; omega) | (simp [h1, h1_, h2, h3, h4, h4_, h3_]; done) | (simp [h1, h1_, h2, h3, h4, h4_, h3_]; omega))
    refine AW.wk [(0, AV.slc 0 0 1 v3.length false), (6, AV.int .i64 v4), (7, AV.int .i64 56), (8, AV.lst false false (List.map (AV.int .i64) v0)), (9, AV.int .i64 (v0.length : Int)), (10, AV.int .i64 v2)] [(0, .grow (List.map (AV.int .u8) v3))] 1 (by simp [h1, h1_, h2, h3, h4, h4_, h3_]) (by simp [h1, h1_, h2, h3, h4, h4_, h3_]) (by simp) ?_
    refine AW.block ?_
    refine AW.loopF (α := (Int × (List Int))) (fun n (v5, v6) => beacon_bytes_v3.L2 k v2 v4 (fun v2_ v3_ => beacon_bytes_v3.L1 k v0 n1 v2_ v3_) n v5 v6 = some v1) (fun (v5, v6) => [(0, AV.slc 0 0 1 v6.length false), (6, AV.int .i64 v4), (7, AV.int .i64 v5), (8, AV.lst false false (List.map (AV.int .i64) v0)), (9, AV.int .i64 (v0.length : Int)), (10, AV.int .i64 v2)]) (fun (v5, v6) => [(0, .grow (List.map (AV.int .u8) v6))]) 1 k ((56, v3)) hF (by simp [h1, h1_, h2, h3, h4, h4_, h3_]) (by simp [h1, h1_, h2, h3, h4, h4_, h3_]) (by simp) ?_
    rintro (_|n2) ⟨v5, v6⟩ hF K1061 hK1061
    · try dsimp only at hF
      rw [beacon_bytes_v3.L2] at hF; cases hF
    try dsimp only at hF
    rw [beacon_bytes_v3.L2] at hF
    refine AW.seq fun K1063 hK1063 => ?_
    refine AW.seqR mixed [] [none, none] (by kernel_rfl) fun G1064 R1064 hG1064 hR1064 => ?_
    try simp [h1, h1_, h2, h3, h4, h4_, h3_]
    repeat' apply And.intro
    any_goals (first | exact hG1064 _ (by kernel_rfl) | refine hR1064 _ _ _ ?_ | omega | (unfold maxLen; omega) | (simp [h1, h1_, h2, h3, h4, h4_, h3_]; done) | (simp [h1, h1_, h2, h3, h4, h4_, h3_]; omega))
    refine AW.wk [(0, AV.slc 0 0 1 v6.length false), (6, AV.int .i64 v4), (7, AV.int .i64 v5), (8, AV.lst false false (List.map (AV.int .i64) v0)), (9, AV.int .i64 (v0.length : Int)), (10, AV.int .i64 v2), (15, AV.bool (decide (0 ≤ v5)))] [(0, .grow (List.map (AV.int .u8) v6))] 1 (by simp [h1, h1_, h2, h3, h4, h4_, h3_]) (by simp [h1, h1_, h2, h3, h4, h4_, h3_]) (by simp) ?_
    by_cases h5 : 0 ≤ v5
    · replace hF := ite_t h5 hF
      have h5_ := h5
      try simp at h5_
      refine AW.condT (by decide) (by first | (simp [h1, h1_, h2, h3, h4, h4_, h3_, h5, h5_]; done) | (simp [h1, h1_, h2, h3, h4, h4_, h3_, h5, h5_]; omega)) ?_
      refine AW.skip ?_
      refine hK1063 _ _ _ ?_
      refine AW.seq fun K1066 hK1066 => ?_
      refine AW.block ?_
      refine AW.region mixed [] [none, none, none, none, none, none, none, none, none] (by kernel_rfl) fun G1067 R1067 hG1067 hR1067 => ?_
      obtain ⟨h6, hF⟩ := chk_elim hF
      obtain ⟨h7, hF⟩ := chk_elim hF
      have h7_ := h7
      try simp at h7_
      try simp [h1, h1_, h2, h3, h4, h4_, h3_, h5, h5_, h6, h7]
      repeat' apply And.intro
      any_goals (first | exact hG1067 _ (by kernel_rfl) | refine hR1067 _ _ _ ?_ | omega | (unfold maxLen; omega) | (simp [h1, h1_, h2, h3, h4, h4_, h3_, h5, h5_, h6, h7]; done) | (simp [h1, h1_, h2, h3, h4, h4_, h3_, h5, h5_, h6, h7]; omega))
      refine hK1066 _ _ _ ?_
      refine AW.wk [(0, AV.slc 1 0 1 ((v6 ++ ([IntKind.wrap .u8 (Int.fdiv (IntKind.wrap .u64 v4) (2 ^ (min v5.toNat 64)))] : List Int)).length) false), (6, AV.int .i64 v4), (7, AV.int .i64 v5), (8, AV.lst false false (List.map (AV.int .i64) v0)), (9, AV.int .i64 (v0.length : Int)), (10, AV.int .i64 v2)] [(1, .grow (List.map (AV.int .u8) (v6 ++ ([IntKind.wrap .u8 (Int.fdiv (IntKind.wrap .u64 v4) (2 ^ (min v5.toNat 64)))] : List Int))))] 2 (by simp [h1, h1_, h2, h3, h4, h4_, h3_, h5, h5_, h6, h7] <;> omega) (by simp [h1, h1_, h2, h3, h4, h4_, h3_, h5, h5_, h6, h7]) (by simp) ?_
      refine AW.region mixed [] [none, none, none] (by kernel_rfl) fun G1068 R1068 hG1068 hR1068 => ?_
      try simp [h1, h1_, h2, h3, h4, h4_, h3_, h5, h5_, h6, h7]
      repeat' apply And.intro
      any_goals (first | exact hG1068 _ (by kernel_rfl) | refine hR1068 _ _ _ ?_ | omega | (unfold maxLen; omega) | (simp [h1, h1_, h2, h3, h4, h4_, h3_, h5, h5_, h6, h7]; done) | (simp [h1, h1_, h2, h3, h4, h4_, h3_, h5, h5_, h6, h7]; omega))
      refine hK1061 _ _ _ ?_
      refine Can.weak [(0, AV.slc 1 0 1 ((v6 ++ ([IntKind.wrap .u8 (Int.fdiv (IntKind.wrap .u64 v4) (2 ^ (min v5.toNat 64)))] : List Int)).length) false), (6, AV.int .i64 v4), (7, AV.int .i64 (IntKind.wrap .i64 (v5 - 8))), (8, AV.lst false false (List.map (AV.int .i64) v0)), (9, AV.int .i64 (v0.length : Int)), (10, AV.int .i64 v2)] [(1, .grow (List.map (AV.int .u8) (v6 ++ ([IntKind.wrap .u8 (Int.fdiv (IntKind.wrap .u64 v4) (2 ^ (min v5.toNat 64)))] : List Int))))] 2 (by simp [h1, h1_, h2, h3, h4, h4_, h3_, h5, h5_, h6, h7] <;> omega) (by simp [h1, h1_, h2, h3, h4, h4_, h3_, h5, h5_, h6, h7]) (by simp) ?_
      refine Can.ren (m := 0) h0 [(0, 1)] [(0, AV.slc 0 0 1 ((v6 ++ ([IntKind.wrap .u8 (Int.fdiv (IntKind.wrap .u64 v4) (2 ^ (min v5.toNat 64)))] : List Int)).length) false), (6, AV.int .i64 v4), (7, AV.int .i64 (IntKind.wrap .i64 (v5 - 8))), (8, AV.lst false false (List.map (AV.int .i64) v0)), (9, AV.int .i64 (v0.length : Int)), (10, AV.int .i64 v2)] [(0, .grow (List.map (AV.int .u8) (v6 ++ ([IntKind.wrap .u8 (Int.fdiv (IntKind.wrap .u64 v4) (2 ^ (min v5.toNat 64)))] : List Int))))] 1 (by decide) (by decide) (by decide) rfl (by simp [h1, h1_, h2, h3, h4, h4_, h3_, h5, h5_, h6, h7]) (by simp [h1, h1_, h2, h3, h4, h4_, h3_, h5, h5_, h6, h7]) ?_
      exact Can.next (k' := n2) ((IntKind.wrap .i64 (v5 - 8), v6 ++ ([IntKind.wrap .u8 (Int.fdiv (IntKind.wrap .u64 v4) (2 ^ (min v5.toNat 64)))] : List Int))) (by omega) hF (by simp [h1, h1_, h2, h3, h4, h4_, h3_, h5, h5_, h6, h7]) (by simp [h1, h1_, h2, h3, h4, h4_, h3_, h5, h5_, h6, h7]) (by simp)
    · replace hF := ite_f h5 hF
      have h5_ := h5
      try simp at h5_
      refine AW.condF (by decide) (by first | (simp [h1, h1_, h2, h3, h4, h4_, h3_, h5, h5_]; done) | (simp [h1, h1_, h2, h3, h4, h4_, h3_, h5, h5_]; omega)) ?_
      refine AW.exit ?_
      try simp
      refine hK1037 _ _ _ ?_
      refine AW.region mixed [] [none, none] (by kernel_rfl) fun G1069 R1069 hG1069 hR1069 => ?_
      try simp [h1, h1_, h2, h3, h4, h4_, h3_, h5, h5_]
      repeat' apply And.intro
      any_goals (first | exact hG1069 _ (by kernel_rfl) | refine hR1069 _ _ _ ?_ | omega | (unfold maxLen; omega) | (simp [h1, h1_, h2, h3, h4, h4_, h3_, h5, h5_]; done) | (simp [h1, h1_, h2, h3, h4, h4_, h3_, h5, h5_]; omega))
      refine hK1003 _ _ _ ?_
      refine Can.weak [(0, AV.slc 0 0 1 v6.length false), (8, AV.lst false false (List.map (AV.int .i64) v0)), (9, AV.int .i64 (v0.length : Int)), (10, AV.int .i64 (IntKind.wrap .i64 (v2 + 1)))] [(0, .grow (List.map (AV.int .u8) v6))] 1 (by simp [h1, h1_, h2, h3, h4, h4_, h3_, h5, h5_]) (by simp [h1, h1_, h2, h3, h4, h4_, h3_, h5, h5_]) (by simp) ?_
      exact Can.next (k' := n1) ((IntKind.wrap .i64 (v2 + 1), v6)) (by omega) hF (by simp [h1, h1_, h2, h3, h4, h4_, h3_, h5, h5_]) (by simp [h1, h1_, h2, h3, h4, h4_, h3_, h5, h5_]) (by simp)
  · replace hF := ite_f h1 hF
    have h1_ := h1
    try simp at h1_
    refine AW.condF (by decide) (by first | (simp [h1, h1_]; done) | (simp [h1, h1_]; omega)) ?_
    refine AW.exit ?_
    try simp
    refine hK803 _ _ _ ?_
    refine AW.seqR mixed [] [none, none] (by kernel_rfl) fun G1070 R1070 hG1070 hR1070 => ?_
    try simp [h1, h1_]
    repeat' apply And.intro
    any_goals (first | exact hG1070 _ (by kernel_rfl) | refine hR1070 _ _ _ ?_ | omega | (unfold maxLen; omega) | (simp [h1, h1_]; done) | (simp [h1, h1_]; omega))
    refine AW.wk [(4, AV.slc 0 0 1 v3.length false)] [(0, .grow (List.map (AV.int .u8) v3))] 1 (by simp [h1, h1_]) (by simp [h1, h1_]) (by simp) ?_
    simp only [Option.some.injEq] at hF
    subst hF
    refine AW.ret (hQ _ _ _ ?_ (matchO_0 ?_)).1
    · simp [Try.f82, h1, h1_]
    · simp [h1, h1_]
set_option maxHeartbeats 4000000 in
theorem w_beacon_Commit (k : Nat) (v0 : Int) (v1 : ByteArray) (v2 : ByteArray) (v3 : Int) (hF : beacon_Commit k v0 v1 = some (v2, v3)) :
    FCall Try.prog 44 [AV.int .i64 v0, AV.str v1] [] (AV.tup [AV.str v2, AV.int .i64 v3]) [] := by
  unfold beacon_Commit at hF
  refine FCall.enter Try.func44 rfl (by simp) (by decide) (by simp) (by simp) (by simp) (by simp) (by simp) ?_
  intro c0 w0 Q h0 hQ
  refine AW.wk [(0, AV.int .i64 v0), (1, AV.str v1)] [] 0 (by simp) (by simp) (by simp) ?_
  refine AW.seqR mixed [] [none, none] (by kernel_rfl) fun G12 R12 hG12 hR12 => ?_
  try simp
  repeat' apply And.intro
  any_goals (first | exact hG12 _ (by kernel_rfl) | refine hR12 _ _ _ ?_ | omega | (unfold maxLen; omega) | (simp; done) | (simp; omega))
  refine AW.wk [(0, AV.int .i64 v0), (1, AV.str v1)] [] 0 (by simp) (by simp) (by simp) ?_
  refine AW.seq fun K17 hK17 => ?_
  refine AW.block ?_
  refine AW.seqR mixed [] [none, none, none, none] (by kernel_rfl) fun G18 R18 hG18 hR18 => ?_
  try simp
  repeat' apply And.intro
  try any_goals (first | omega | (unfold maxLen; omega) | (simp; done))
  obtain ⟨v4, h1, hF⟩ := bnd1_elim hF
  refine aCall_l (w_beacon_public k _ _ h1) (by simp) [] [] [] rfl (.cons (.same (by simp)) .nil) (by simp) (by decide) (by simp) (by simp) (.inl rfl) (by simp) (by simp) ?_
  try simp
  repeat' apply And.intro
  any_goals (first | exact hG18 _ (by kernel_rfl) | refine hR18 _ _ _ ?_ | omega | (unfold maxLen; omega) | (simp; done) | (simp; omega))
  refine AW.wk [(0, AV.int .i64 v0), (1, AV.str v1), (6, AV.bool (!v4))] [] 0 (by simp) (by simp) (by simp) ?_
  by_cases h2 : (!v4) = true
  · replace hF := ite_t h2 hF
    have h2_ := h2
    try simp at h2_
    refine AW.condT (by decide) (by first | (simp [h2, h2_]; done) | (simp [h2, h2_]; omega)) ?_
    refine AW.seqR mixed [] [none, none] (by kernel_rfl) fun G19 R19 hG19 hR19 => ?_
    try simp [h2, h2_]
    repeat' apply And.intro
    any_goals (first | exact hG19 _ (by kernel_rfl) | refine hR19 _ _ _ ?_ | omega | (unfold maxLen; omega) | (simp [h2, h2_]; done) | (simp [h2, h2_]; omega))
    refine AW.wk [(4, AV.str (ByteArray.mk #[])), (5, AV.int .i64 2)] [] 0 (by simp [h2, h2_]) (by simp [h2, h2_]) (by simp) ?_
    simp only [Option.some.injEq, Prod.mk.injEq] at hF
    obtain ⟨e0, e1⟩ := hF
    subst e0 e1
    refine AW.ret (hQ _ _ _ ?_ (matchO_0 ?_)).1
    · simp [Try.f44, h2, h2_]
    · simp [h2, h2_]
  · replace hF := ite_f h2 hF
    have h2_ := h2
    try simp at h2_
    refine AW.condF (by decide) (by first | (simp [h2, h2_]; done) | (simp [h2, h2_]; omega)) ?_
    refine AW.seqR mixed [] [none, none, none, none] (by kernel_rfl) fun G20 R20 hG20 hR20 => ?_
    try simp [h2, h2_]
    repeat' apply And.intro
    any_goals (first | exact hG20 _ (by kernel_rfl) | refine hR20 _ _ _ ?_ | omega | (unfold maxLen; omega) | (simp [h2, h2_]; done) | (simp [h2, h2_]; omega))
    refine AW.wk [(0, AV.int .i64 v0), (1, AV.str v1), (10, AV.bool (decide (64 < (v1.size : Int))))] [] 0 (by simp [h2, h2_]) (by simp [h2, h2_]) (by simp) ?_
    by_cases h3 : 64 < (v1.size : Int)
    · replace hF := ite_t h3 hF
      have h3_ := h3
      try simp at h3_
      refine AW.condT (by decide) (by first | (simp [h2, h2_, h3, h3_]; done) | (simp [h2, h2_, h3, h3_]; omega)) ?_
      refine AW.seqR mixed [] [none, none] (by kernel_rfl) fun G21 R21 hG21 hR21 => ?_
      try simp [h2, h2_, h3, h3_]
      repeat' apply And.intro
      any_goals (first | exact hG21 _ (by kernel_rfl) | refine hR21 _ _ _ ?_ | omega | (unfold maxLen; omega) | (simp [h2, h2_, h3, h3_]; done) | (simp [h2, h2_, h3, h3_]; omega))
      refine AW.wk [(4, AV.str (ByteArray.mk #[])), (5, AV.int .i64 3)] [] 0 (by simp [h2, h2_, h3, h3_]) (by simp [h2, h2_, h3, h3_]) (by simp) ?_
      simp only [Option.some.injEq, Prod.mk.injEq] at hF
      obtain ⟨e0, e1⟩ := hF
      subst e0 e1
      refine AW.ret (hQ _ _ _ ?_ (matchO_0 ?_)).1
      · simp [Try.f44, h2, h2_, h3, h3_]
      · simp [h2, h2_, h3, h3_]
    · replace hF := ite_f h3 hF
      have h3_ := h3
      try simp at h3_
      refine AW.condF (by decide) (by first | (simp [h2, h2_, h3, h3_]; done) | (simp [h2, h2_, h3, h3_]; omega)) ?_
      refine AW.skip ?_
      refine hK17 _ _ _ ?_
      refine AW.seqR mixed [] [none, none, none, none, none, none, none, none] (by kernel_rfl) fun G22 R22 hG22 hR22 => ?_
      try simp [h2, h2_, h3, h3_]
      repeat' apply And.intro
      try any_goals (first | omega | (unfold maxLen; omega) | (simp [h2, h2_, h3, h3_]; done))
      obtain ⟨v5, h4, hF⟩ := bnd1_elim hF
      refine aCall_l (w_beacon_bytes_v3 k _ _ h4) (by simp) [] [] [] rfl (.cons (.same (by simp [h2, h2_, h3, h3_])) (.cons (Coe.fl (by simp [h2, h2_, h3, h3_])) .nil)) (by simp [h2, h2_, h3, h3_]) (by decide) (by simp) (by simp) (.inl rfl) (by simp) (by simp) ?_
      obtain ⟨h5, hF⟩ := chk_elim hF
      have h5_ := h5
      try simp at h5_
      try simp [h2, h2_, h3, h3_, h5]
      repeat' apply And.intro
      try any_goals (first | omega | (unfold maxLen; omega) | (simp [h2, h2_, h3, h3_, h5]; done))
      obtain ⟨v6, h6, hF⟩ := bnd1_elim hF
      refine aCall_l (w_digest_Sum k _ _ h6) (by simp) [] [1] [] rfl (.cons (Coe.l (o := .grow (List.map (AV.int .u8) (v5 ++ (bI v1)))) (by simp [h2, h2_, h3, h3_, h5]) rfl (by simp [h2, h2_, h3, h3_, h5]) (by simp [noIdsL]) (by simp [h2, h2_, h3, h3_, h5]) (by simp [h2, h2_, h3, h3_, h5])) .nil) (by simp [h2, h2_, h3, h3_, h5]) (by decide) (by simp) (by simp) (.inr ⟨by simp, by simp⟩) (by simp) (by simp) ?_
      try simp [h2, h2_, h3, h3_, h5]
      repeat' apply And.intro
      any_goals (first | exact hG22 _ (by kernel_rfl) | refine hR22 _ _ _ ?_ | omega | (unfold maxLen; omega) | (simp [h2, h2_, h3, h3_, h5]; done) | (simp [h2, h2_, h3, h3_, h5]; omega))
      refine AW.wk [(4, AV.str v6), (5, AV.int .i64 0)] [] 2 (by simp [h2, h2_, h3, h3_, h5]) (by simp [h2, h2_, h3, h3_, h5]) (by simp) ?_
      simp only [Option.some.injEq, Prod.mk.injEq] at hF
      obtain ⟨e0, e1⟩ := hF
      subst e0 e1
      refine AW.ret (hQ _ _ _ ?_ (matchO_0 ?_)).1
      · simp [Try.f44, h2, h2_, h3, h3_, h5]
      · simp [h2, h2_, h3, h3_, h5]
set_option maxHeartbeats 4000000 in
theorem w_beacon_Opens (k : Nat) (v0 : ByteArray) (v1 : Int) (v2 : ByteArray) (v3 : Bool) (hF : beacon_Opens k v0 v1 v2 = some v3) :
    FCall Try.prog 46 [AV.str v0, AV.int .i64 v1, AV.str v2] [] (AV.bool v3) [] := by
  unfold beacon_Opens at hF
  refine FCall.enter Try.func46 rfl (by simp) (by decide) (by simp) (by simp) (by simp) (by simp) (by simp) ?_
  intro c0 w0 Q h0 hQ
  refine AW.wk [(0, AV.str v0), (1, AV.int .i64 v1), (2, AV.str v2)] [] 0 (by simp) (by simp) (by simp) ?_
  refine AW.seqR mixed [] [none] (by kernel_rfl) fun G4 R4 hG4 hR4 => ?_
  try simp
  repeat' apply And.intro
  any_goals (first | exact hG4 _ (by kernel_rfl) | refine hR4 _ _ _ ?_ | omega | (unfold maxLen; omega) | (simp; done) | (simp; omega))
  refine AW.wk [(0, AV.str v0), (1, AV.int .i64 v1), (2, AV.str v2)] [] 0 (by simp) (by simp) (by simp) ?_
  refine AW.seqR mixed [] [none, none, none, none, none, none, none, none] (by kernel_rfl) fun G5 R5 hG5 hR5 => ?_
  try simp
  repeat' apply And.intro
  try any_goals (first | omega | (unfold maxLen; omega) | (simp; done))
  obtain ⟨v4, v5, h1, hF⟩ := bnd2_elim hF
  refine aCall_l (w_beacon_Commit k _ _ _ _ h1) (by simp) [] [] [] rfl (.cons (.same (by simp)) (.cons (.same (by simp)) .nil)) (by simp) (by decide) (by simp) (by simp) (.inl rfl) (by simp) (by simp) ?_
  try simp
  repeat' apply And.intro
  any_goals (first | exact hG5 _ (by kernel_rfl) | refine hR5 _ _ _ ?_ | omega | (unfold maxLen; omega) | (simp; done) | (simp; omega))
  refine AW.wk [(0, AV.str v0), (7, AV.str v4), (8, AV.int .i64 v5)] [] 0 (by simp) (by simp) (by simp) ?_
  refine AW.seqR mixed [] [none, none, none, some (17, true), some (17, true), some (17, true), none, none] (by kernel_rfl) fun G6 R6 hG6 hR6 => ?_
  by_cases h2 : v5 = 0
  · replace hF := ite_t h2 hF
    have h2q : v5 = 0 := h2
    have h2_ := eqb_t h2q
    have h2__ := neb_f h2q
    try simp [h2_, h2__, h2q]
    repeat' apply And.intro
    any_goals (first | exact hG6 _ (by kernel_rfl) | refine hR6 _ _ _ ?_ | omega | (unfold maxLen; omega) | (simp [h2_, h2__, h2q]; done) | (simp [h2_, h2__, h2q]; omega))
    refine AW.wk [(6, AV.bool (strEq v4 v0))] [] 0 (by simp [h2_, h2__, h2q]) (by simp [h2_, h2__, h2q]) (by simp) ?_
    simp only [Option.some.injEq] at hF
    subst hF
    refine AW.ret (hQ _ _ _ ?_ (matchO_0 ?_)).1
    · simp [Try.f46, h2_, h2__, h2q]
    · simp [h2_, h2__, h2q]
  · replace hF := ite_f h2 hF
    have h2_ := eqb_f h2
    have h2__ := neb_t h2
    try simp [h2, h2_, h2__]
    repeat' apply And.intro
    any_goals (first | exact hG6 _ (by kernel_rfl) | refine hR6 _ _ _ ?_ | omega | (unfold maxLen; omega) | (simp [h2, h2_, h2__]; done) | (simp [h2, h2_, h2__]; omega))
    refine AW.wk [(6, AV.bool false)] [] 0 (by simp [h2, h2_, h2__]) (by simp [h2, h2_, h2__]) (by simp) ?_
    simp only [Option.some.injEq] at hF
    subst hF
    refine AW.ret (hQ _ _ _ ?_ (matchO_0 ?_)).1
    · simp [Try.f46, h2, h2_, h2__]
    · simp [h2, h2_, h2__]
set_option maxHeartbeats 4000000 in
theorem w_law25_awake (k : Nat) (v0 : Bool) (hF : law25_awake k = some v0) :
    FCall Try.prog 37 [] [] (AV.bool v0) [] := by
  unfold law25_awake at hF
  refine FCall.enter Try.func37 rfl (by simp) (by decide) (by simp) (by simp) (by simp) (by simp) (by simp) ?_
  intro c0 w0 Q h0 hQ
  refine AW.wk [] [] 0 (by simp [-List.reduceReplicate, sOf_set, ofI_set, allU8_set]) (by simp [-List.reduceReplicate, sOf_set, ofI_set, allU8_set]) (by simp) ?_
  refine AW.seqR mixed [] [none] (by kernel_rfl) fun G6 R6 hG6 hR6 => ?_
  try simp [-List.reduceReplicate, sOf_set, ofI_set, allU8_set]
  repeat' apply And.intro
  any_goals (first | exact hG6 _ (by kernel_rfl) | refine hR6 _ _ _ ?_ | omega | (unfold maxLen; omega) | (simp [-List.reduceReplicate, sOf_set, ofI_set, allU8_set]; done) | (simp [-List.reduceReplicate, sOf_set, ofI_set, allU8_set]; omega))
  refine AW.wk [] [] 0 (by simp [-List.reduceReplicate, sOf_set, ofI_set, allU8_set]) (by simp [-List.reduceReplicate, sOf_set, ofI_set, allU8_set]) (by simp) ?_
  refine AW.seqR mixed [] [none, none, none, none, none, none, none] (by kernel_rfl) fun G7 R7 hG7 hR7 => ?_
  try simp [-List.reduceReplicate, sOf_set, ofI_set, allU8_set]
  repeat' apply And.intro
  try any_goals (first | omega | (unfold maxLen; omega) | (simp [-List.reduceReplicate, sOf_set, ofI_set, allU8_set]; done))
  obtain ⟨v1, v2, h1, hF⟩ := bnd2_elim hF
  refine aCall_l (w_beacon_Mix k _ _ _ _ h1) (by simp) [] [] [] rfl (.cons (Coe.fl (by simp)) (.cons (.same (by simp)) .nil)) (by simp [-List.reduceReplicate, sOf_set, ofI_set, allU8_set]) (by decide) (by simp) (by simp) (.inl rfl) (by simp) (by simp) ?_
  try simp [-List.reduceReplicate, sOf_set, ofI_set, allU8_set]
  repeat' apply And.intro
  any_goals (first | exact hG7 _ (by kernel_rfl) | refine hR7 _ _ _ ?_ | omega | (unfold maxLen; omega) | (simp [-List.reduceReplicate, sOf_set, ofI_set, allU8_set]; done) | (simp [-List.reduceReplicate, sOf_set, ofI_set, allU8_set]; omega))
  refine AW.wk [(1, AV.int .i64 v1), (2, AV.int .i64 v2)] [] 0 (by simp [-List.reduceReplicate, sOf_set, ofI_set, allU8_set]) (by simp [-List.reduceReplicate, sOf_set, ofI_set, allU8_set]) (by simp) ?_
  refine AW.seqR mixed [] [none, none, none, none, none, none, none, none] (by kernel_rfl) fun G8 R8 hG8 hR8 => ?_
  obtain ⟨h2, hF⟩ := chk_elim hF
  try simp [-List.reduceReplicate, sOf_set, ofI_set, allU8_set, h2]
  repeat' apply And.intro
  try any_goals (first | omega | (unfold maxLen; omega) | (simp [-List.reduceReplicate, sOf_set, ofI_set, allU8_set, h2]; done))
  obtain ⟨v3, v4, h3, hF⟩ := bnd2_elim hF
  refine aCall_l (w_beacon_Numbers k _ _ _ _ _ h3) (by simp) [] [] [] rfl (.cons (.same (by simp [-List.reduceReplicate, sOf_set, ofI_set, allU8_set, h2])) (.cons (Coe.fl (by simp [-List.reduceReplicate, sOf_set, ofI_set, allU8_set, h2])) (.cons (.same (by simp [-List.reduceReplicate, sOf_set, ofI_set, allU8_set, h2])) .nil))) (by simp [-List.reduceReplicate, sOf_set, ofI_set, allU8_set, h2]) (by decide) (by simp) (by simp) (.inl rfl) (by simp) (by simp) ?_
  try simp [-List.reduceReplicate, sOf_set, ofI_set, allU8_set, h2]
  repeat' apply And.intro
  any_goals (first | exact hG8 _ (by kernel_rfl) | refine hR8 _ _ _ ?_ | omega | (unfold maxLen; omega) | (simp [-List.reduceReplicate, sOf_set, ofI_set, allU8_set, h2]; done) | (simp [-List.reduceReplicate, sOf_set, ofI_set, allU8_set, h2]; omega))
  refine AW.wk [(1, AV.int .i64 v1), (2, AV.int .i64 v2), (3, AV.slc 0 0 1 v3.length false), (4, AV.int .i64 v4)] [(0, .grow (List.map (AV.int .i64) v3))] 1 (by simp [-List.reduceReplicate, sOf_set, ofI_set, allU8_set, h2]) (by simp [-List.reduceReplicate, sOf_set, ofI_set, allU8_set, h2]) (by simp) ?_
  refine AW.frz 0 (o := .grow (List.map (AV.int .i64) v3)) (by simp [-List.reduceReplicate, sOf_set, ofI_set, allU8_set, h2]) rfl [(3, AV.lst false false (List.map (AV.int .i64) v3))] [] ⟨(.l (by simp) (by simp) (by simp) (by simp)), trivial⟩ trivial ?_
  refine AW.wk [(1, AV.int .i64 v1), (2, AV.int .i64 v2), (3, AV.lst false false (List.map (AV.int .i64) v3)), (4, AV.int .i64 v4)] [] 1 (by simp [-List.reduceReplicate, sOf_set, ofI_set, allU8_set, h2]) (by simp [-List.reduceReplicate, sOf_set, ofI_set, allU8_set, h2]) (by simp) ?_
  refine AW.seqR mixed [] [none, none, none, none, none, none] (by kernel_rfl) fun G9 R9 hG9 hR9 => ?_
  try simp [-List.reduceReplicate, sOf_set, ofI_set, allU8_set, h2]
  repeat' apply And.intro
  try any_goals (first | omega | (unfold maxLen; omega) | (simp [-List.reduceReplicate, sOf_set, ofI_set, allU8_set, h2]; done))
  obtain ⟨v5, v6, h4, hF⟩ := bnd2_elim hF
  refine aCall_l (w_beacon_Commit k _ _ _ _ h4) (by simp) [] [] [] rfl (.cons (.same (by simp [-List.reduceReplicate, sOf_set, ofI_set, allU8_set, h2])) (.cons (.same (by simp [-List.reduceReplicate, sOf_set, ofI_set, allU8_set, h2])) .nil)) (by simp [-List.reduceReplicate, sOf_set, ofI_set, allU8_set, h2]) (by decide) (by simp) (by simp) (.inl rfl) (by simp) (by simp) ?_
  try simp [-List.reduceReplicate, sOf_set, ofI_set, allU8_set, h2]
  repeat' apply And.intro
  any_goals (first | exact hG9 _ (by kernel_rfl) | refine hR9 _ _ _ ?_ | omega | (unfold maxLen; omega) | (simp [-List.reduceReplicate, sOf_set, ofI_set, allU8_set, h2]; done) | (simp [-List.reduceReplicate, sOf_set, ofI_set, allU8_set, h2]; omega))
  refine AW.wk [(1, AV.int .i64 v1), (2, AV.int .i64 v2), (3, AV.lst false false (List.map (AV.int .i64) v3)), (4, AV.int .i64 v4), (5, AV.str v5), (6, AV.int .i64 v6)] [] 1 (by simp [-List.reduceReplicate, sOf_set, ofI_set, allU8_set, h2]) (by simp [-List.reduceReplicate, sOf_set, ofI_set, allU8_set, h2]) (by simp) ?_
  refine AW.seqR mixed [] [none, none, none, some (24, true), some (24, true), none, none, some (28, true), some (28, true), none, none, some (32, true), some (32, true), none, none, some (36, true), some (36, true), some (36, true), none, none, some (41, true), some (41, true), some (41, true), some (41, true), some (41, true), some (41, true), some (41, true), none, none, some (50, true), some (50, true), none, none, some (54, true), some (54, true), some (54, true), none, none] (by kernel_rfl) fun G10 R10 hG10 hR10 => ?_
  by_cases h5 : v2 = 0
  · replace hF := ite_t h5 hF
    have h5q : v2 = 0 := h5
    have h5_ := eqb_t h5q
    have h5__ := neb_f h5q
    by_cases h6 : v4 = 0
    · replace hF := ite_t h6 hF
      have h6q : v4 = 0 := h6
      have h6_ := eqb_t h6q
      have h6__ := neb_f h6q
      by_cases h7 : v6 = 0
      · replace hF := ite_t h7 hF
        have h7q : v6 = 0 := h7
        have h7_ := eqb_t h7q
        have h7__ := neb_f h7q
        by_cases h8 : v1 = 2
        · replace hF := ite_t h8 hF
          have h8q : v1 = 2 := h8
          have h8_ := eqb_t h8q
          have h8__ := neb_f h8q
          by_cases h9 : (v3.length : Int) = 2
          · replace hF := ite_t h9 hF
            have h9q : (v3.length : Int) = 2 := h9
            have h9_ := eqb_t h9q
            have h9__ := neb_f h9q
            obtain ⟨v7, h10, h11, h12, hF⟩ := idx_elim hF
            have h12_ := get_of h12
            try simp [-List.reduceReplicate] at h12_
            have h11_ := h11
            try simp [-List.reduceReplicate] at h11_
            have h12z := head_of h12
            obtain ⟨v8, h13, h14, h15, hF⟩ := idx_elim hF
            have h15_ := get_of h15
            try simp [-List.reduceReplicate] at h15_
            have h14_ := h14
            try simp [-List.reduceReplicate] at h14_
            by_cases h16 : v7 ≠ v8
            · replace hF := ite_t h16 hF
              have h16_ := eqb_f h16
              have h16__ := neb_t h16
              try simp [-List.reduceReplicate, sOf_set, ofI_set, allU8_set, h2, h5_, h5__, h5q, h6_, h6__, h6q, h7_, h7__, h7q, h8_, h8__, h8q, h9_, h9__, h9q, h10, h11, h12, h12_, h11_, h12z, h13, h14, h15, h15_, h14_, h16, h16_, h16__]
              repeat' apply And.intro
              try any_goals (first | omega | (unfold maxLen; omega) | (simp [-List.reduceReplicate, sOf_set, ofI_set, allU8_set, h2, h5_, h5__, h5q, h6_, h6__, h6q, h7_, h7__, h7q, h8_, h8__, h8q, h9_, h9__, h9q, h10, h11, h12, h12_, h11_, h12z, h13, h14, h15, h15_, h14_, h16, h16_, h16__]; done))
              obtain ⟨v9, h17, hF⟩ := bnd1_elim hF
              refine aCall_l (w_beacon_Opens k _ _ _ _ h17) (by simp) [] [] [] rfl (.cons (.same (by simp [-List.reduceReplicate, sOf_set, ofI_set, allU8_set, h2, h5_, h5__, h5q, h6_, h6__, h6q, h7_, h7__, h7q, h8_, h8__, h8q, h9_, h9__, h9q, h10, h11, h12, h12_, h11_, h12z, h13, h14, h15, h15_, h14_, h16, h16_, h16__])) (.cons (.same (by simp [-List.reduceReplicate, sOf_set, ofI_set, allU8_set, h2, h5_, h5__, h5q, h6_, h6__, h6q, h7_, h7__, h7q, h8_, h8__, h8q, h9_, h9__, h9q, h10, h11, h12, h12_, h11_, h12z, h13, h14, h15, h15_, h14_, h16, h16_, h16__])) (.cons (.same (by simp [-List.reduceReplicate, sOf_set, ofI_set, allU8_set, h2, h5_, h5__, h5q, h6_, h6__, h6q, h7_, h7__, h7q, h8_, h8__, h8q, h9_, h9__, h9q, h10, h11, h12, h12_, h11_, h12z, h13, h14, h15, h15_, h14_, h16, h16_, h16__])) .nil))) (by simp [-List.reduceReplicate, sOf_set, ofI_set, allU8_set, h2, h5_, h5__, h5q, h6_, h6__, h6q, h7_, h7__, h7q, h8_, h8__, h8q, h9_, h9__, h9q, h10, h11, h12, h12_, h11_, h12z, h13, h14, h15, h15_, h14_, h16, h16_, h16__]) (by decide) (by simp) (by simp) (.inl rfl) (by simp) (by simp) ?_
              by_cases h18 : v9 = true
              · replace hF := ite_t h18 hF
                have h18_ := h18
                try simp [-List.reduceReplicate] at h18_
                try simp [-List.reduceReplicate, sOf_set, ofI_set, allU8_set, h2, h5_, h5__, h5q, h6_, h6__, h6q, h7_, h7__, h7q, h8_, h8__, h8q, h9_, h9__, h9q, h10, h11, h12, h12_, h11_, h12z, h13, h14, h15, h15_, h14_, h16, h16_, h16__, h18, h18_]
                repeat' apply And.intro
                try any_goals (first | omega | (unfold maxLen; omega) | (simp [-List.reduceReplicate, sOf_set, ofI_set, allU8_set, h2, h5_, h5__, h5q, h6_, h6__, h6q, h7_, h7__, h7q, h8_, h8__, h8q, h9_, h9__, h9q, h10, h11, h12, h12_, h11_, h12z, h13, h14, h15, h15_, h14_, h16, h16_, h16__, h18, h18_]; done))
                obtain ⟨v10, h19, hF⟩ := bnd1_elim hF
                refine aCall_l (w_beacon_Opens k _ _ _ _ h19) (by simp) [] [] [] rfl (.cons (.same (by simp [-List.reduceReplicate, sOf_set, ofI_set, allU8_set, h2, h5_, h5__, h5q, h6_, h6__, h6q, h7_, h7__, h7q, h8_, h8__, h8q, h9_, h9__, h9q, h10, h11, h12, h12_, h11_, h12z, h13, h14, h15, h15_, h14_, h16, h16_, h16__, h18, h18_])) (.cons (.same (by simp [-List.reduceReplicate, sOf_set, ofI_set, allU8_set, h2, h5_, h5__, h5q, h6_, h6__, h6q, h7_, h7__, h7q, h8_, h8__, h8q, h9_, h9__, h9q, h10, h11, h12, h12_, h11_, h12z, h13, h14, h15, h15_, h14_, h16, h16_, h16__, h18, h18_])) (.cons (.same (by simp [-List.reduceReplicate, sOf_set, ofI_set, allU8_set, h2, h5_, h5__, h5q, h6_, h6__, h6q, h7_, h7__, h7q, h8_, h8__, h8q, h9_, h9__, h9q, h10, h11, h12, h12_, h11_, h12z, h13, h14, h15, h15_, h14_, h16, h16_, h16__, h18, h18_])) .nil))) (by simp [-List.reduceReplicate, sOf_set, ofI_set, allU8_set, h2, h5_, h5__, h5q, h6_, h6__, h6q, h7_, h7__, h7q, h8_, h8__, h8q, h9_, h9__, h9q, h10, h11, h12, h12_, h11_, h12z, h13, h14, h15, h15_, h14_, h16, h16_, h16__, h18, h18_]) (by decide) (by simp) (by simp) (.inl rfl) (by simp) (by simp) ?_
                try simp [-List.reduceReplicate, sOf_set, ofI_set, allU8_set, h2, h5_, h5__, h5q, h6_, h6__, h6q, h7_, h7__, h7q, h8_, h8__, h8q, h9_, h9__, h9q, h10, h11, h12, h12_, h11_, h12z, h13, h14, h15, h15_, h14_, h16, h16_, h16__, h18, h18_]
                repeat' apply And.intro
                any_goals (first | exact hG10 _ (by kernel_rfl) | refine hR10 _ _ _ ?_ | omega | (unfold maxLen; omega) | (simp [-List.reduceReplicate, sOf_set, ofI_set, allU8_set, h2, h5_, h5__, h5q, h6_, h6__, h6q, h7_, h7__, h7q, h8_, h8__, h8q, h9_, h9__, h9q, h10, h11, h12, h12_, h11_, h12z, h13, h14, h15, h15_, h14_, h16, h16_, h16__, h18, h18_]; done) | (simp [-List.reduceReplicate, sOf_set, ofI_set, allU8_set, h2, h5_, h5__, h5q, h6_, h6__, h6q, h7_, h7__, h7q, h8_, h8__, h8q, h9_, h9__, h9q, h10, h11, h12, h12_, h11_, h12z, h13, h14, h15, h15_, h14_, h16, h16_, h16__, h18, h18_]; omega))
                refine AW.wk [(0, AV.bool (!v10))] [] 1 (by simp [-List.reduceReplicate, sOf_set, ofI_set, allU8_set, h2, h5_, h5__, h5q, h6_, h6__, h6q, h7_, h7__, h7q, h8_, h8__, h8q, h9_, h9__, h9q, h10, h11, h12, h12_, h11_, h12z, h13, h14, h15, h15_, h14_, h16, h16_, h16__, h18, h18_]) (by simp [-List.reduceReplicate, sOf_set, ofI_set, allU8_set, h2, h5_, h5__, h5q, h6_, h6__, h6q, h7_, h7__, h7q, h8_, h8__, h8q, h9_, h9__, h9q, h10, h11, h12, h12_, h11_, h12z, h13, h14, h15, h15_, h14_, h16, h16_, h16__, h18, h18_]) (by simp) ?_
                simp only [Option.some.injEq] at hF
                subst hF
                refine AW.ret (hQ _ _ _ ?_ (matchO_0 ?_)).1
                · simp [Try.f37, h2, h5_, h5__, h5q, h6_, h6__, h6q, h7_, h7__, h7q, h8_, h8__, h8q, h9_, h9__, h9q, h10, h11, h12, h12_, h11_, h12z, h13, h14, h15, h15_, h14_, h16, h16_, h16__, h18, h18_]
                · simp [h2, h5_, h5__, h5q, h6_, h6__, h6q, h7_, h7__, h7q, h8_, h8__, h8q, h9_, h9__, h9q, h10, h11, h12, h12_, h11_, h12z, h13, h14, h15, h15_, h14_, h16, h16_, h16__, h18, h18_]
              · replace hF := ite_f h18 hF
                have h18_ := h18
                try simp [-List.reduceReplicate] at h18_
                try simp [-List.reduceReplicate, sOf_set, ofI_set, allU8_set, h2, h5_, h5__, h5q, h6_, h6__, h6q, h7_, h7__, h7q, h8_, h8__, h8q, h9_, h9__, h9q, h10, h11, h12, h12_, h11_, h12z, h13, h14, h15, h15_, h14_, h16, h16_, h16__, h18, h18_]
                repeat' apply And.intro
                any_goals (first | exact hG10 _ (by kernel_rfl) | refine hR10 _ _ _ ?_ | omega | (unfold maxLen; omega) | (simp [-List.reduceReplicate, sOf_set, ofI_set, allU8_set, h2, h5_, h5__, h5q, h6_, h6__, h6q, h7_, h7__, h7q, h8_, h8__, h8q, h9_, h9__, h9q, h10, h11, h12, h12_, h11_, h12z, h13, h14, h15, h15_, h14_, h16, h16_, h16__, h18, h18_]; done) | (simp [-List.reduceReplicate, sOf_set, ofI_set, allU8_set, h2, h5_, h5__, h5q, h6_, h6__, h6q, h7_, h7__, h7q, h8_, h8__, h8q, h9_, h9__, h9q, h10, h11, h12, h12_, h11_, h12z, h13, h14, h15, h15_, h14_, h16, h16_, h16__, h18, h18_]; omega))
                refine AW.wk [(0, AV.bool false)] [] 1 (by simp [-List.reduceReplicate, sOf_set, ofI_set, allU8_set, h2, h5_, h5__, h5q, h6_, h6__, h6q, h7_, h7__, h7q, h8_, h8__, h8q, h9_, h9__, h9q, h10, h11, h12, h12_, h11_, h12z, h13, h14, h15, h15_, h14_, h16, h16_, h16__, h18, h18_]) (by simp [-List.reduceReplicate, sOf_set, ofI_set, allU8_set, h2, h5_, h5__, h5q, h6_, h6__, h6q, h7_, h7__, h7q, h8_, h8__, h8q, h9_, h9__, h9q, h10, h11, h12, h12_, h11_, h12z, h13, h14, h15, h15_, h14_, h16, h16_, h16__, h18, h18_]) (by simp) ?_
                simp only [Option.some.injEq] at hF
                subst hF
                refine AW.ret (hQ _ _ _ ?_ (matchO_0 ?_)).1
                · simp [Try.f37, h2, h5_, h5__, h5q, h6_, h6__, h6q, h7_, h7__, h7q, h8_, h8__, h8q, h9_, h9__, h9q, h10, h11, h12, h12_, h11_, h12z, h13, h14, h15, h15_, h14_, h16, h16_, h16__, h18, h18_]
                · simp [h2, h5_, h5__, h5q, h6_, h6__, h6q, h7_, h7__, h7q, h8_, h8__, h8q, h9_, h9__, h9q, h10, h11, h12, h12_, h11_, h12z, h13, h14, h15, h15_, h14_, h16, h16_, h16__, h18, h18_]
            · replace hF := ite_f h16 hF
              have h16q : v7 = v8 := Classical.not_not.1 h16
              have h16_ := eqb_t h16q
              have h16__ := neb_f h16q
              try simp [-List.reduceReplicate, sOf_set, ofI_set, allU8_set, h2, h5_, h5__, h5q, h6_, h6__, h6q, h7_, h7__, h7q, h8_, h8__, h8q, h9_, h9__, h9q, h10, h11, h12, h12_, h11_, h12z, h13, h14, h15, h15_, h14_, h16_, h16__]
              repeat' apply And.intro
              any_goals (first | exact hG10 _ (by kernel_rfl) | refine hR10 _ _ _ ?_ | omega | (unfold maxLen; omega) | (simp [-List.reduceReplicate, sOf_set, ofI_set, allU8_set, h2, h5_, h5__, h5q, h6_, h6__, h6q, h7_, h7__, h7q, h8_, h8__, h8q, h9_, h9__, h9q, h10, h11, h12, h12_, h11_, h12z, h13, h14, h15, h15_, h14_, h16_, h16__]; done) | (simp [-List.reduceReplicate, sOf_set, ofI_set, allU8_set, h2, h5_, h5__, h5q, h6_, h6__, h6q, h7_, h7__, h7q, h8_, h8__, h8q, h9_, h9__, h9q, h10, h11, h12, h12_, h11_, h12z, h13, h14, h15, h15_, h14_, h16_, h16__]; omega))
              refine AW.wk [(0, AV.bool false)] [] 1 (by simp [-List.reduceReplicate, sOf_set, ofI_set, allU8_set, h2, h5_, h5__, h5q, h6_, h6__, h6q, h7_, h7__, h7q, h8_, h8__, h8q, h9_, h9__, h9q, h10, h11, h12, h12_, h11_, h12z, h13, h14, h15, h15_, h14_, h16_, h16__]) (by simp [-List.reduceReplicate, sOf_set, ofI_set, allU8_set, h2, h5_, h5__, h5q, h6_, h6__, h6q, h7_, h7__, h7q, h8_, h8__, h8q, h9_, h9__, h9q, h10, h11, h12, h12_, h11_, h12z, h13, h14, h15, h15_, h14_, h16_, h16__]) (by simp) ?_
              simp only [Option.some.injEq] at hF
              subst hF
              refine AW.ret (hQ _ _ _ ?_ (matchO_0 ?_)).1
              · simp [Try.f37, h2, h5_, h5__, h5q, h6_, h6__, h6q, h7_, h7__, h7q, h8_, h8__, h8q, h9_, h9__, h9q, h10, h11, h12, h12_, h11_, h12z, h13, h14, h15, h15_, h14_, h16_, h16__]
              · simp [h2, h5_, h5__, h5q, h6_, h6__, h6q, h7_, h7__, h7q, h8_, h8__, h8q, h9_, h9__, h9q, h10, h11, h12, h12_, h11_, h12z, h13, h14, h15, h15_, h14_, h16_, h16__]
          · replace hF := ite_f h9 hF
            have h9_ := eqb_f h9
            have h9__ := neb_t h9
            try simp [-List.reduceReplicate, sOf_set, ofI_set, allU8_set, h2, h5_, h5__, h5q, h6_, h6__, h6q, h7_, h7__, h7q, h8_, h8__, h8q, h9, h9_, h9__]
            repeat' apply And.intro
            any_goals (first | exact hG10 _ (by kernel_rfl) | refine hR10 _ _ _ ?_ | omega | (unfold maxLen; omega) | (simp [-List.reduceReplicate, sOf_set, ofI_set, allU8_set, h2, h5_, h5__, h5q, h6_, h6__, h6q, h7_, h7__, h7q, h8_, h8__, h8q, h9, h9_, h9__]; done) | (simp [-List.reduceReplicate, sOf_set, ofI_set, allU8_set, h2, h5_, h5__, h5q, h6_, h6__, h6q, h7_, h7__, h7q, h8_, h8__, h8q, h9, h9_, h9__]; omega))
            refine AW.wk [(0, AV.bool false)] [] 1 (by simp [-List.reduceReplicate, sOf_set, ofI_set, allU8_set, h2, h5_, h5__, h5q, h6_, h6__, h6q, h7_, h7__, h7q, h8_, h8__, h8q, h9, h9_, h9__]) (by simp [-List.reduceReplicate, sOf_set, ofI_set, allU8_set, h2, h5_, h5__, h5q, h6_, h6__, h6q, h7_, h7__, h7q, h8_, h8__, h8q, h9, h9_, h9__]) (by simp) ?_
            simp only [Option.some.injEq] at hF
            subst hF
            refine AW.ret (hQ _ _ _ ?_ (matchO_0 ?_)).1
            · simp [Try.f37, h2, h5_, h5__, h5q, h6_, h6__, h6q, h7_, h7__, h7q, h8_, h8__, h8q, h9, h9_, h9__]
            · simp [h2, h5_, h5__, h5q, h6_, h6__, h6q, h7_, h7__, h7q, h8_, h8__, h8q, h9, h9_, h9__]
        · replace hF := ite_f h8 hF
          have h8_ := eqb_f h8
          have h8__ := neb_t h8
          try simp [-List.reduceReplicate, sOf_set, ofI_set, allU8_set, h2, h5_, h5__, h5q, h6_, h6__, h6q, h7_, h7__, h7q, h8, h8_, h8__]
          repeat' apply And.intro
          any_goals (first | exact hG10 _ (by kernel_rfl) | refine hR10 _ _ _ ?_ | omega | (unfold maxLen; omega) | (simp [-List.reduceReplicate, sOf_set, ofI_set, allU8_set, h2, h5_, h5__, h5q, h6_, h6__, h6q, h7_, h7__, h7q, h8, h8_, h8__]; done) | (simp [-List.reduceReplicate, sOf_set, ofI_set, allU8_set, h2, h5_, h5__, h5q, h6_, h6__, h6q, h7_, h7__, h7q, h8, h8_, h8__]; omega))
          refine AW.wk [(0, AV.bool false)] [] 1 (by simp [-List.reduceReplicate, sOf_set, ofI_set, allU8_set, h2, h5_, h5__, h5q, h6_, h6__, h6q, h7_, h7__, h7q, h8, h8_, h8__]) (by simp [-List.reduceReplicate, sOf_set, ofI_set, allU8_set, h2, h5_, h5__, h5q, h6_, h6__, h6q, h7_, h7__, h7q, h8, h8_, h8__]) (by simp) ?_
          simp only [Option.some.injEq] at hF
          subst hF
          refine AW.ret (hQ _ _ _ ?_ (matchO_0 ?_)).1
          · simp [Try.f37, h2, h5_, h5__, h5q, h6_, h6__, h6q, h7_, h7__, h7q, h8, h8_, h8__]
          · simp [h2, h5_, h5__, h5q, h6_, h6__, h6q, h7_, h7__, h7q, h8, h8_, h8__]
      · replace hF := ite_f h7 hF
        have h7_ := eqb_f h7
        have h7__ := neb_t h7
        try simp [-List.reduceReplicate, sOf_set, ofI_set, allU8_set, h2, h5_, h5__, h5q, h6_, h6__, h6q, h7, h7_, h7__]
        repeat' apply And.intro
        any_goals (first | exact hG10 _ (by kernel_rfl) | refine hR10 _ _ _ ?_ | omega | (unfold maxLen; omega) | (simp [-List.reduceReplicate, sOf_set, ofI_set, allU8_set, h2, h5_, h5__, h5q, h6_, h6__, h6q, h7, h7_, h7__]; done) | (simp [-List.reduceReplicate, sOf_set, ofI_set, allU8_set, h2, h5_, h5__, h5q, h6_, h6__, h6q, h7, h7_, h7__]; omega))
        refine AW.wk [(0, AV.bool false)] [] 1 (by simp [-List.reduceReplicate, sOf_set, ofI_set, allU8_set, h2, h5_, h5__, h5q, h6_, h6__, h6q, h7, h7_, h7__]) (by simp [-List.reduceReplicate, sOf_set, ofI_set, allU8_set, h2, h5_, h5__, h5q, h6_, h6__, h6q, h7, h7_, h7__]) (by simp) ?_
        simp only [Option.some.injEq] at hF
        subst hF
        refine AW.ret (hQ _ _ _ ?_ (matchO_0 ?_)).1
        · simp [Try.f37, h2, h5_, h5__, h5q, h6_, h6__, h6q, h7, h7_, h7__]
        · simp [h2, h5_, h5__, h5q, h6_, h6__, h6q, h7, h7_, h7__]
    · replace hF := ite_f h6 hF
      have h6_ := eqb_f h6
      have h6__ := neb_t h6
      try simp [-List.reduceReplicate, sOf_set, ofI_set, allU8_set, h2, h5_, h5__, h5q, h6, h6_, h6__]
      repeat' apply And.intro
      any_goals (first | exact hG10 _ (by kernel_rfl) | refine hR10 _ _ _ ?_ | omega | (unfold maxLen; omega) | (simp [-List.reduceReplicate, sOf_set, ofI_set, allU8_set, h2, h5_, h5__, h5q, h6, h6_, h6__]; done) | (simp [-List.reduceReplicate, sOf_set, ofI_set, allU8_set, h2, h5_, h5__, h5q, h6, h6_, h6__]; omega))
      refine AW.wk [(0, AV.bool false)] [] 1 (by simp [-List.reduceReplicate, sOf_set, ofI_set, allU8_set, h2, h5_, h5__, h5q, h6, h6_, h6__]) (by simp [-List.reduceReplicate, sOf_set, ofI_set, allU8_set, h2, h5_, h5__, h5q, h6, h6_, h6__]) (by simp) ?_
      simp only [Option.some.injEq] at hF
      subst hF
      refine AW.ret (hQ _ _ _ ?_ (matchO_0 ?_)).1
      · simp [Try.f37, h2, h5_, h5__, h5q, h6, h6_, h6__]
      · simp [h2, h5_, h5__, h5q, h6, h6_, h6__]
  · replace hF := ite_f h5 hF
    have h5_ := eqb_f h5
    have h5__ := neb_t h5
    try simp [-List.reduceReplicate, sOf_set, ofI_set, allU8_set, h2, h5, h5_, h5__]
    repeat' apply And.intro
    any_goals (first | exact hG10 _ (by kernel_rfl) | refine hR10 _ _ _ ?_ | omega | (unfold maxLen; omega) | (simp [-List.reduceReplicate, sOf_set, ofI_set, allU8_set, h2, h5, h5_, h5__]; done) | (simp [-List.reduceReplicate, sOf_set, ofI_set, allU8_set, h2, h5, h5_, h5__]; omega))
    refine AW.wk [(0, AV.bool false)] [] 1 (by simp [-List.reduceReplicate, sOf_set, ofI_set, allU8_set, h2, h5, h5_, h5__]) (by simp [-List.reduceReplicate, sOf_set, ofI_set, allU8_set, h2, h5, h5_, h5__]) (by simp) ?_
    simp only [Option.some.injEq] at hF
    subst hF
    refine AW.ret (hQ _ _ _ ?_ (matchO_0 ?_)).1
    · simp [Try.f37, h2, h5, h5_, h5__]
    · simp [h2, h5, h5_, h5__]
set_option maxHeartbeats 4000000 in
theorem w_beacon_Next (k : Nat) (v0 : ByteArray) (v1 : Int) (v2 : (List Int)) (v3 : ByteArray) (v4 : Int) (hF : beacon_Next k v0 v1 v2 = some (v3, v4)) :
    FCall Try.prog 39 [AV.str v0, AV.int .i64 v1, AV.lst false false (List.map (AV.int .i64) v2)] [] (AV.tup [AV.str v3, AV.int .i64 v4]) [] := by
  unfold beacon_Next at hF
  refine FCall.enter Try.func39 rfl (by simp) (by decide) (by simp) (by simp) (by simp) (by simp) (by simp) ?_
  intro c0 w0 Q h0 hQ
  refine AW.wk [(0, AV.str v0), (1, AV.int .i64 v1), (2, AV.lst false false (List.map (AV.int .i64) v2))] [] 0 (by simp) (by simp) (by simp) ?_
  refine AW.seqR mixed [] [none, none] (by kernel_rfl) fun G18 R18 hG18 hR18 => ?_
  try simp
  repeat' apply And.intro
  any_goals (first | exact hG18 _ (by kernel_rfl) | refine hR18 _ _ _ ?_ | omega | (unfold maxLen; omega) | (simp; done) | (simp; omega))
  refine AW.wk [(0, AV.str v0), (1, AV.int .i64 v1), (2, AV.lst false false (List.map (AV.int .i64) v2))] [] 0 (by simp) (by simp) (by simp) ?_
  refine AW.seq fun K26 hK26 => ?_
  refine AW.block ?_
  refine AW.seqR mixed [] [none, none, none, none] (by kernel_rfl) fun G27 R27 hG27 hR27 => ?_
  try simp
  repeat' apply And.intro
  any_goals (first | exact hG27 _ (by kernel_rfl) | refine hR27 _ _ _ ?_ | omega | (unfold maxLen; omega) | (simp; done) | (simp; omega))
  refine AW.wk [(0, AV.str v0), (1, AV.int .i64 v1), (2, AV.lst false false (List.map (AV.int .i64) v2)), (8, AV.bool ((v0.size : Int) != 32))] [] 0 (by simp) (by simp) (by simp) ?_
  by_cases h1 : (v0.size : Int) ≠ 32
  · replace hF := ite_t h1 hF
    have h1_ := eqb_f h1
    have h1__ := neb_t h1
    refine AW.condT (by decide) (by first | (simp [h1, h1_, h1__]; done) | (simp [h1, h1_, h1__]; omega)) ?_
    refine AW.seqR mixed [] [none, none] (by kernel_rfl) fun G28 R28 hG28 hR28 => ?_
    try simp [h1, h1_, h1__]
    repeat' apply And.intro
    any_goals (first | exact hG28 _ (by kernel_rfl) | refine hR28 _ _ _ ?_ | omega | (unfold maxLen; omega) | (simp [h1, h1_, h1__]; done) | (simp [h1, h1_, h1__]; omega))
    refine AW.wk [(6, AV.str (ByteArray.mk #[])), (7, AV.int .i64 1)] [] 0 (by simp [h1, h1_, h1__]) (by simp [h1, h1_, h1__]) (by simp) ?_
    simp only [Option.some.injEq, Prod.mk.injEq] at hF
    obtain ⟨e0, e1⟩ := hF
    subst e0 e1
    refine AW.ret (hQ _ _ _ ?_ (matchO_0 ?_)).1
    · simp [Try.f39, h1, h1_, h1__]
    · simp [h1, h1_, h1__]
  · replace hF := ite_f h1 hF
    have h1q : (v0.size : Int) = 32 := Classical.not_not.1 h1
    have h1_ := eqb_t h1q
    have h1__ := neb_f h1q
    refine AW.condF (by decide) (by first | (simp [h1_, h1__, h1q]; done) | (simp [h1_, h1__, h1q]; omega)) ?_
    refine AW.seqR mixed [] [none, none, none, some (15, false), some (15, false), none, none] (by kernel_rfl) fun G29 R29 hG29 hR29 => ?_
    by_cases h2 : v1 < 0
    · replace hF := ite_t h2 hF
      have h2_ := h2
      try simp at h2_
      try simp [h1_, h1__, h1q, h2, h2_]
      repeat' apply And.intro
      any_goals (first | exact hG29 _ (by kernel_rfl) | refine hR29 _ _ _ ?_ | omega | (unfold maxLen; omega) | (simp [h1_, h1__, h1q, h2, h2_]; done) | (simp [h1_, h1__, h1q, h2, h2_]; omega))
      refine AW.wk [(0, AV.str v0), (1, AV.int .i64 v1), (2, AV.lst false false (List.map (AV.int .i64) v2)), (12, AV.bool true)] [] 0 (by simp [h1_, h1__, h1q, h2, h2_]) (by simp [h1_, h1__, h1q, h2, h2_]) (by simp) ?_
      refine AW.condT (by decide) (by simp [h1_, h1__, h1q, h2, h2_]) ?_
      refine AW.seqR mixed [] [none, none] (by kernel_rfl) fun G30 R30 hG30 hR30 => ?_
      try simp [h1_, h1__, h1q, h2, h2_]
      repeat' apply And.intro
      any_goals (first | exact hG30 _ (by kernel_rfl) | refine hR30 _ _ _ ?_ | omega | (unfold maxLen; omega) | (simp [h1_, h1__, h1q, h2, h2_]; done) | (simp [h1_, h1__, h1q, h2, h2_]; omega))
      refine AW.wk [(6, AV.str (ByteArray.mk #[])), (7, AV.int .i64 2)] [] 0 (by simp [h1_, h1__, h1q, h2, h2_]) (by simp [h1_, h1__, h1q, h2, h2_]) (by simp) ?_
      simp only [Option.some.injEq, Prod.mk.injEq] at hF
      obtain ⟨e0, e1⟩ := hF
      subst e0 e1
      refine AW.ret (hQ _ _ _ ?_ (matchO_0 ?_)).1
      · simp [Try.f39, h1_, h1__, h1q, h2, h2_]
      · simp [h1_, h1__, h1q, h2, h2_]
    · replace hF := ite_f h2 hF
      have h2_ := h2
      try simp at h2_
      try simp [h1_, h1__, h1q, h2, h2_]
      repeat' apply And.intro
      any_goals (first | exact hG29 _ (by kernel_rfl) | refine hR29 _ _ _ ?_ | omega | (unfold maxLen; omega) | (simp [h1_, h1__, h1q, h2, h2_]; done) | (simp [h1_, h1__, h1q, h2, h2_]; omega))
      refine AW.wk [(0, AV.str v0), (1, AV.int .i64 v1), (2, AV.lst false false (List.map (AV.int .i64) v2)), (12, AV.bool (decide (40 ≤ v1)))] [] 0 (by simp [h1_, h1__, h1q, h2, h2_]) (by simp [h1_, h1__, h1q, h2, h2_]) (by simp) ?_
      by_cases h3 : 40 ≤ v1
      · replace hF := ite_t h3 hF
        have h3_ := h3
        try simp at h3_
        refine AW.condT (by decide) (by first | (simp [h1_, h1__, h1q, h2, h2_, h3, h3_]; done) | (simp [h1_, h1__, h1q, h2, h2_, h3, h3_]; omega)) ?_
        refine AW.seqR mixed [] [none, none] (by kernel_rfl) fun G31 R31 hG31 hR31 => ?_
        try simp [h1_, h1__, h1q, h2, h2_, h3, h3_]
        repeat' apply And.intro
        any_goals (first | exact hG31 _ (by kernel_rfl) | refine hR31 _ _ _ ?_ | omega | (unfold maxLen; omega) | (simp [h1_, h1__, h1q, h2, h2_, h3, h3_]; done) | (simp [h1_, h1__, h1q, h2, h2_, h3, h3_]; omega))
        refine AW.wk [(6, AV.str (ByteArray.mk #[])), (7, AV.int .i64 2)] [] 0 (by simp [h1_, h1__, h1q, h2, h2_, h3, h3_]) (by simp [h1_, h1__, h1q, h2, h2_, h3, h3_]) (by simp) ?_
        simp only [Option.some.injEq, Prod.mk.injEq] at hF
        obtain ⟨e0, e1⟩ := hF
        subst e0 e1
        refine AW.ret (hQ _ _ _ ?_ (matchO_0 ?_)).1
        · simp [Try.f39, h1_, h1__, h1q, h2, h2_, h3, h3_]
        · simp [h1_, h1__, h1q, h2, h2_, h3, h3_]
      · replace hF := ite_f h3 hF
        have h3_ := h3
        try simp at h3_
        refine AW.condF (by decide) (by first | (simp [h1_, h1__, h1q, h2, h2_, h3, h3_]; done) | (simp [h1_, h1__, h1q, h2, h2_, h3, h3_]; omega)) ?_
        refine AW.seqR mixed [] [none, none, none, none] (by kernel_rfl) fun G32 R32 hG32 hR32 => ?_
        try simp [h1_, h1__, h1q, h2, h2_, h3, h3_]
        repeat' apply And.intro
        any_goals (first | exact hG32 _ (by kernel_rfl) | refine hR32 _ _ _ ?_ | omega | (unfold maxLen; omega) | (simp [h1_, h1__, h1q, h2, h2_, h3, h3_]; done) | (simp [h1_, h1__, h1q, h2, h2_, h3, h3_]; omega))
        refine AW.wk [(0, AV.str v0), (1, AV.int .i64 v1), (2, AV.lst false false (List.map (AV.int .i64) v2)), (19, AV.bool (decide (64 < (v2.length : Int))))] [] 0 (by simp [h1_, h1__, h1q, h2, h2_, h3, h3_]) (by simp [h1_, h1__, h1q, h2, h2_, h3, h3_]) (by simp) ?_
        by_cases h4 : 64 < (v2.length : Int)
        · replace hF := ite_t h4 hF
          have h4_ := h4
          try simp at h4_
          refine AW.condT (by decide) (by first | (simp [h1_, h1__, h1q, h2, h2_, h3, h3_, h4, h4_]; done) | (simp [h1_, h1__, h1q, h2, h2_, h3, h3_, h4, h4_]; omega)) ?_
          refine AW.seqR mixed [] [none, none] (by kernel_rfl) fun G33 R33 hG33 hR33 => ?_
          try simp [h1_, h1__, h1q, h2, h2_, h3, h3_, h4, h4_]
          repeat' apply And.intro
          any_goals (first | exact hG33 _ (by kernel_rfl) | refine hR33 _ _ _ ?_ | omega | (unfold maxLen; omega) | (simp [h1_, h1__, h1q, h2, h2_, h3, h3_, h4, h4_]; done) | (simp [h1_, h1__, h1q, h2, h2_, h3, h3_, h4, h4_]; omega))
          refine AW.wk [(6, AV.str (ByteArray.mk #[])), (7, AV.int .i64 3)] [] 0 (by simp [h1_, h1__, h1q, h2, h2_, h3, h3_, h4, h4_]) (by simp [h1_, h1__, h1q, h2, h2_, h3, h3_, h4, h4_]) (by simp) ?_
          simp only [Option.some.injEq, Prod.mk.injEq] at hF
          obtain ⟨e0, e1⟩ := hF
          subst e0 e1
          refine AW.ret (hQ _ _ _ ?_ (matchO_0 ?_)).1
          · simp [Try.f39, h1_, h1__, h1q, h2, h2_, h3, h3_, h4, h4_]
          · simp [h1_, h1__, h1q, h2, h2_, h3, h3_, h4, h4_]
        · replace hF := ite_f h4 hF
          have h4_ := h4
          try simp at h4_
          refine AW.condF (by decide) (by first | (simp [h1_, h1__, h1q, h2, h2_, h3, h3_, h4, h4_]; done) | (simp [h1_, h1__, h1q, h2, h2_, h3, h3_, h4, h4_]; omega)) ?_
          refine AW.skip ?_
          refine hK26 _ _ _ ?_
          refine AW.seqR mixed [24] [none, none, none, none, none, none, none, none, none, none] (by kernel_rfl) fun G34 R34 hG34 hR34 => ?_
          try simp [h1_, h1__, h1q, h2, h2_, h3, h3_, h4, h4_]
          repeat' apply And.intro
          try any_goals (first | omega | (unfold maxLen; omega) | (simp [h1_, h1__, h1q, h2, h2_, h3, h3_, h4, h4_]; done))
          obtain ⟨v5, h5, hF⟩ := bnd1_elim hF
          refine aCall_l (w_beacon_bytes k _ _ _ h5) (by simp) [0] [] [0] rfl (.cons (.same (by simp [h1_, h1__, h1q, h2, h2_, h3, h3_, h4, h4_])) (.cons (Coe.fl (by simp [h1_, h1__, h1q, h2, h2_, h3, h3_, h4, h4_])) .nil)) (by simp [h1_, h1__, h1q, h2, h2_, h3, h3_, h4, h4_]) (by decide) (by simp) (by simp) (.inl rfl) (by simp) (by simp) ?_
          try simp [h1_, h1__, h1q, h2, h2_, h3, h3_, h4, h4_]
          repeat' apply And.intro
          try any_goals (first | omega | (unfold maxLen; omega) | (simp [h1_, h1__, h1q, h2, h2_, h3, h3_, h4, h4_]; done))
          obtain ⟨v6, h6, hF⟩ := bnd1_elim hF
          refine aCall_l (w_beacon_list k _ _ _ h6) (by simp) [1] [] [1] rfl (.cons (.same (by simp [h1_, h1__, h1q, h2, h2_, h3, h3_, h4, h4_])) (.cons (.same (by simp [h1_, h1__, h1q, h2, h2_, h3, h3_, h4, h4_])) .nil)) (by simp [h1_, h1__, h1q, h2, h2_, h3, h3_, h4, h4_]) (by decide) (by simp) (by simp) (.inl rfl) (by simp) (by simp) ?_
          try simp [h1_, h1__, h1q, h2, h2_, h3, h3_, h4, h4_]
          repeat' apply And.intro
          try any_goals (first | omega | (unfold maxLen; omega) | (simp [h1_, h1__, h1q, h2, h2_, h3, h3_, h4, h4_]; done))
          obtain ⟨v7, h7, hF⟩ := bnd1_elim hF
          refine aCall_l (w_digest_Sum k _ _ h7) (by simp) [] [2] [] rfl (.cons (Coe.l (o := .cells (List.map (AV.int .u8) v6)) (by simp [h1_, h1__, h1q, h2, h2_, h3, h3_, h4, h4_]) rfl (by simp [h1_, h1__, h1q, h2, h2_, h3, h3_, h4, h4_]) (by simp [noIdsL]) (by simp [h1_, h1__, h1q, h2, h2_, h3, h3_, h4, h4_]) (by simp [h1_, h1__, h1q, h2, h2_, h3, h3_, h4, h4_])) .nil) (by simp [h1_, h1__, h1q, h2, h2_, h3, h3_, h4, h4_]) (by decide) (by simp) (by simp) (.inr ⟨by simp, by simp⟩) (by simp) (by simp) ?_
          try simp [h1_, h1__, h1q, h2, h2_, h3, h3_, h4, h4_]
          repeat' apply And.intro
          any_goals (first | exact hG34 _ (by kernel_rfl) | refine hR34 _ _ _ ?_ | omega | (unfold maxLen; omega) | (simp [h1_, h1__, h1q, h2, h2_, h3, h3_, h4, h4_]; done) | (simp [h1_, h1__, h1q, h2, h2_, h3, h3_, h4, h4_]; omega))
          refine AW.wk [(6, AV.str v7), (7, AV.int .i64 0)] [] 3 (by simp [h1_, h1__, h1q, h2, h2_, h3, h3_, h4, h4_]) (by simp [h1_, h1__, h1q, h2, h2_, h3, h3_, h4, h4_]) (by simp) ?_
          simp only [Option.some.injEq, Prod.mk.injEq] at hF
          obtain ⟨e0, e1⟩ := hF
          subst e0 e1
          refine AW.ret (hQ _ _ _ ?_ (matchO_0 ?_)).1
          · simp [Try.f39, h1_, h1__, h1q, h2, h2_, h3, h3_, h4, h4_]
          · simp [h1_, h1__, h1q, h2, h2_, h3, h3_, h4, h4_]
set_option maxHeartbeats 4000000 in
theorem w_ref25_number (k : Nat) (v0 : (List Int)) (v1 : Int) (v2 : (List Int)) (hF : ref25_number k v0 v1 = some v2) :
    FCall Try.prog 84 [AV.slc 0 0 1 v0.length false, AV.int .i64 v1] [.grow (List.map (AV.int .u8) v0)] (AV.slc 1 0 1 v2.length false) [none, some (.grow (List.map (AV.int .u8) v2))] := by
  unfold ref25_number at hF
  refine FCall.enter Try.func84 rfl (by simp) (by decide) (by simp) (by simp) (by simp) (by simp) (by simp) ?_
  intro c0 w0 Q h0 hQ
  refine AW.wk [(0, AV.slc 0 0 1 v0.length false), (1, AV.int .i64 v1)] [(0, .grow (List.map (AV.int .u8) v0))] 1 (by simp) (by simp) (by simp) ?_
  refine AW.seqR mixed [] [none] (by kernel_rfl) fun G65 R65 hG65 hR65 => ?_
  try simp
  repeat' apply And.intro
  any_goals (first | exact hG65 _ (by kernel_rfl) | refine hR65 _ _ _ ?_ | omega | (unfold maxLen; omega) | (simp; done) | (simp; omega))
  refine AW.wk [(0, AV.slc 0 0 1 v0.length false), (1, AV.int .i64 v1)] [(0, .grow (List.map (AV.int .u8) v0))] 1 (by simp) (by simp) (by simp) ?_
  refine AW.seqR mixed [] [none, none, none] (by kernel_rfl) fun G66 R66 hG66 hR66 => ?_
  try simp
  repeat' apply And.intro
  any_goals (first | exact hG66 _ (by kernel_rfl) | refine hR66 _ _ _ ?_ | omega | (unfold maxLen; omega) | (simp; done) | (simp; omega))
  refine AW.wk [(0, AV.slc 0 0 1 v0.length false), (5, AV.int .u64 (IntKind.wrap .u64 v1))] [(0, .grow (List.map (AV.int .u8) v0))] 1 (by simp) (by simp) (by simp) ?_
  refine AW.seq fun K97 hK97 => ?_
  refine AW.seqR mixed [] [none] (by kernel_rfl) fun G98 R98 hG98 hR98 => ?_
  try simp
  repeat' apply And.intro
  any_goals (first | exact hG98 _ (by kernel_rfl) | refine hR98 _ _ _ ?_ | omega | (unfold maxLen; omega) | (simp; done) | (simp; omega))
  refine AW.wk [(0, AV.slc 0 0 1 v0.length false), (5, AV.int .u64 (IntKind.wrap .u64 v1)), (6, AV.int .i64 7)] [(0, .grow (List.map (AV.int .u8) v0))] 1 (by simp) (by simp) (by simp) ?_
  refine AW.block ?_
  refine AW.rnm (m := 1) h0 [(1, 0)] [(0, AV.slc 1 0 1 v0.length false), (5, AV.int .u64 (IntKind.wrap .u64 v1)), (6, AV.int .i64 7)] [(1, .grow (List.map (AV.int .u8) v0))] 2 (by decide) (by decide) (by decide) rfl (by simp) (by simp) ?_
  refine AW.loopF (α := (Int × (List Int))) (fun n (v3, v4) => ref25_number.L1 k v1 n v3 v4 = some v2) (fun (v3, v4) => [(0, AV.slc 1 0 1 v4.length false), (5, AV.int .u64 (IntKind.wrap .u64 v1)), (6, AV.int .i64 v3)]) (fun (v3, v4) => [(1, .grow (List.map (AV.int .u8) v4))]) 2 k ((7, v0)) hF (by simp) (by simp) (by simp) ?_
  rintro (_|n1) ⟨v3, v4⟩ hF K120 hK120
  · try dsimp only at hF
    rw [ref25_number.L1] at hF; cases hF
  try dsimp only at hF
  rw [ref25_number.L1] at hF
  refine AW.seq fun K122 hK122 => ?_
  refine AW.seqR mixed [] [none, none] (by kernel_rfl) fun G123 R123 hG123 hR123 => ?_
  try simp
  repeat' apply And.intro
  any_goals (first | exact hG123 _ (by kernel_rfl) | refine hR123 _ _ _ ?_ | omega | (unfold maxLen; omega) | (simp; done) | (simp; omega))
  refine AW.wk [(0, AV.slc 1 0 1 v4.length false), (5, AV.int .u64 (IntKind.wrap .u64 v1)), (6, AV.int .i64 v3), (10, AV.bool (decide (0 ≤ v3)))] [(1, .grow (List.map (AV.int .u8) v4))] 2 (by simp) (by simp) (by simp) ?_
  by_cases h1 : 0 ≤ v3
  · replace hF := ite_t h1 hF
    have h1_ := h1
    try simp at h1_
    refine AW.condT (by decide) (by first | (simp [h1, h1_]; done) | (simp [h1, h1_]; omega)) ?_
    refine AW.skip ?_
    refine hK122 _ _ _ ?_
    refine AW.seq fun K125 hK125 => ?_
    refine AW.block ?_
    refine AW.region mixed [] [none, none, none, none, none, none, none, none, none, none] (by kernel_rfl) fun G126 R126 hG126 hR126 => ?_
    obtain ⟨h2, hF⟩ := chk_elim hF
    obtain ⟨h3, hF⟩ := chk_elim hF
    have h3_ := h3
    try simp at h3_
    try simp [h1, h1_, h2, h3]
    repeat' apply And.intro
    any_goals (first | exact hG126 _ (by kernel_rfl) | refine hR126 _ _ _ ?_ | omega | (unfold maxLen; omega) | (simp [h1, h1_, h2, h3]; done) | (simp [h1, h1_, h2, h3]; omega))
    refine hK125 _ _ _ ?_
    refine AW.wk [(0, AV.slc 2 0 1 ((v4 ++ ([IntKind.wrap .u8 (Int.fdiv (IntKind.wrap .u64 v1) (2 ^ (min ((IntKind.wrap .u64 (IntKind.wrap .i64 (8 * v3))).toNat) 64)))] : List Int)).length) false), (5, AV.int .u64 (IntKind.wrap .u64 v1)), (6, AV.int .i64 v3)] [(2, .grow (List.map (AV.int .u8) (v4 ++ ([IntKind.wrap .u8 (Int.fdiv (IntKind.wrap .u64 v1) (2 ^ (min ((IntKind.wrap .u64 (IntKind.wrap .i64 (8 * v3))).toNat) 64)))] : List Int))))] 3 (by simp [h1, h1_, h2, h3] <;> omega) (by simp [h1, h1_, h2, h3]) (by simp) ?_
    refine AW.region mixed [] [none, none, none] (by kernel_rfl) fun G127 R127 hG127 hR127 => ?_
    try simp [h1, h1_, h2, h3]
    repeat' apply And.intro
    any_goals (first | exact hG127 _ (by kernel_rfl) | refine hR127 _ _ _ ?_ | omega | (unfold maxLen; omega) | (simp [h1, h1_, h2, h3]; done) | (simp [h1, h1_, h2, h3]; omega))
    refine hK120 _ _ _ ?_
    refine Can.weak [(0, AV.slc 2 0 1 ((v4 ++ ([IntKind.wrap .u8 (Int.fdiv (IntKind.wrap .u64 v1) (2 ^ (min ((IntKind.wrap .u64 (IntKind.wrap .i64 (8 * v3))).toNat) 64)))] : List Int)).length) false), (5, AV.int .u64 (IntKind.wrap .u64 v1)), (6, AV.int .i64 (IntKind.wrap .i64 (v3 - 1)))] [(2, .grow (List.map (AV.int .u8) (v4 ++ ([IntKind.wrap .u8 (Int.fdiv (IntKind.wrap .u64 v1) (2 ^ (min ((IntKind.wrap .u64 (IntKind.wrap .i64 (8 * v3))).toNat) 64)))] : List Int))))] 3 (by simp [h1, h1_, h2, h3] <;> omega) (by simp [h1, h1_, h2, h3]) (by simp) ?_
    refine Can.ren (m := 1) h0 [(1, 2)] [(0, AV.slc 1 0 1 ((v4 ++ ([IntKind.wrap .u8 (Int.fdiv (IntKind.wrap .u64 v1) (2 ^ (min ((IntKind.wrap .u64 (IntKind.wrap .i64 (8 * v3))).toNat) 64)))] : List Int)).length) false), (5, AV.int .u64 (IntKind.wrap .u64 v1)), (6, AV.int .i64 (IntKind.wrap .i64 (v3 - 1)))] [(1, .grow (List.map (AV.int .u8) (v4 ++ ([IntKind.wrap .u8 (Int.fdiv (IntKind.wrap .u64 v1) (2 ^ (min ((IntKind.wrap .u64 (IntKind.wrap .i64 (8 * v3))).toNat) 64)))] : List Int))))] 2 (by decide) (by decide) (by decide) rfl (by simp [h1, h1_, h2, h3]) (by simp [h1, h1_, h2, h3]) ?_
    exact Can.next (k' := n1) ((IntKind.wrap .i64 (v3 - 1), v4 ++ ([IntKind.wrap .u8 (Int.fdiv (IntKind.wrap .u64 v1) (2 ^ (min ((IntKind.wrap .u64 (IntKind.wrap .i64 (8 * v3))).toNat) 64)))] : List Int))) (by omega) hF (by simp [h1, h1_, h2, h3]) (by simp [h1, h1_, h2, h3]) (by simp)
  · replace hF := ite_f h1 hF
    have h1_ := h1
    try simp at h1_
    refine AW.condF (by decide) (by first | (simp [h1, h1_]; done) | (simp [h1, h1_]; omega)) ?_
    refine AW.exit ?_
    try simp
    refine hK97 _ _ _ ?_
    refine AW.seqR mixed [] [none, none] (by kernel_rfl) fun G128 R128 hG128 hR128 => ?_
    try simp [h1, h1_]
    repeat' apply And.intro
    any_goals (first | exact hG128 _ (by kernel_rfl) | refine hR128 _ _ _ ?_ | omega | (unfold maxLen; omega) | (simp [h1, h1_]; done) | (simp [h1, h1_]; omega))
    refine AW.wk [(4, AV.slc 1 0 1 v4.length false)] [(1, .grow (List.map (AV.int .u8) v4))] 2 (by simp [h1, h1_]) (by simp [h1, h1_]) (by simp) ?_
    simp only [Option.some.injEq] at hF
    subst hF
    refine AW.ret (hQ _ _ _ ?_ (matchO_0 ?_)).1
    · simp [Try.f84, h1, h1_]
    · simp [h1, h1_]
end Go.TF
