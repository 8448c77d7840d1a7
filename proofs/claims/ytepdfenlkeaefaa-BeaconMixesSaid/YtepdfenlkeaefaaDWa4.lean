/- Walks: the Go text computes the Lean functions (printed by a program of our own). -/
import Derived.Test.YtepdfenlkeaefaaDPu
import Derived.Test.YtepdfenlkeaefaaDAbsT
import Derived.Test.YtepdfenlkeaefaaDWa0
import Derived.Test.YtepdfenlkeaefaaDWa1
import Derived.Test.YtepdfenlkeaefaaDWa3
set_option linter.unusedVariables false
set_option linter.unusedSimpArgs false
set_option maxRecDepth 100000
namespace Go.TF
open Go Go.Abs Go.Proofs Go.Proofs.YtepdfenlkeaefaaDT
set_option maxHeartbeats 4000000 in
theorem w_beacon_bytes_v3 (k : Nat) (v0 : (List Int)) (v1 : (List Int)) (hF : beacon_bytes_v3 k v0 = some v1) :
    FCall Try.prog 82 [AV.lst true true (List.map (AV.int .u8) ([] : List Int)), AV.lst false false (List.map (AV.int .i64) v0)] [] (AV.slc 0 0 1 v1.length false) [some (.grow (List.map (AV.int .u8) v1))] := by
  unfold beacon_bytes_v3 at hF
  refine FCall.enter Try.func82 rfl (by simp) (by decide) (by simp) (by simp) (by simp) (by simp) (by simp) ?_
  intro c0 w0 Q h0 hQ
  refine AW.wk [(0, AV.lst true true (List.map (AV.int .u8) ([] : List Int))), (1, AV.lst false false (List.map (AV.int .i64) v0))] [] 0 (by simp) (by simp) (by simp) ?_
  refine AW.seqR mixed [] [none] (by kernel_rfl) fun G536 R536 hG536 hR536 => ?_
  try simp
  repeat' apply And.intro
  any_goals (first | exact hG536 _ (by kernel_rfl) | refine hR536 _ _ _ ?_ | omega | (unfold maxLen; omega) | (simp; done) | (simp; omega))
  refine AW.wk [(0, AV.lst true true (List.map (AV.int .u8) ([] : List Int))), (1, AV.lst false false (List.map (AV.int .i64) v0))] [] 0 (by simp) (by simp) (by simp) ?_
  refine AW.seq fun K803 hK803 => ?_
  refine AW.seqR mixed [] [none, none, none] (by kernel_rfl) fun G804 R804 hG804 hR804 => ?_
  try simp
  repeat' apply And.intro
  any_goals (first | exact hG804 _ (by kernel_rfl) | refine hR804 _ _ _ ?_ | omega | (unfold maxLen; omega) | (simp; done) | (simp; omega))
  refine AW.wk [(0, AV.lst true true (List.map (AV.int .u8) ([] : List Int))), (8, AV.lst false false (List.map (AV.int .i64) v0)), (9, AV.int .i64 (v0.length : Int)), (10, AV.int .i64 0)] [] 0 (by simp) (by simp) (by simp) ?_
  refine AW.block ?_
  refine AW.own' 0 1 true (by simp) (by decide) ?_
  refine AW.loopF (α := (Int × (List Int))) (fun n (v2, v3) => beacon_bytes_v3.L1 k v0 n v2 v3 = some v1) (fun (v2, v3) => [(0, AV.slc 0 0 1 v3.length false), (8, AV.lst false false (List.map (AV.int .i64) v0)), (9, AV.int .i64 (v0.length : Int)), (10, AV.int .i64 v2)]) (fun (v2, v3) => [(0, .grow (List.map (AV.int .u8) v3))]) 1 k ((0, ([] : List Int))) hF (by simp) (by simp) (by simp) ?_
  rintro (_|n1) ⟨v2, v3⟩ hF K1003 hK1003
  · try dsimp only at hF
    rw [beacon_bytes_v3.L1] at hF; cases hF
  try dsimp only at hF
  rw [beacon_bytes_v3.L1] at hF
  refine AW.seqR mixed [] [none] (by kernel_rfl) fun G1004 R1004 hG1004 hR1004 => ?_
  try simp
  repeat' apply And.intro
  any_goals (first | exact hG1004 _ (by kernel_rfl) | refine hR1004 _ _ _ ?_ | omega | (unfold maxLen; omega) | (simp; done) | (simp; omega))
  refine AW.wk [(0, AV.slc 0 0 1 v3.length false), (8, AV.lst false false (List.map (AV.int .i64) v0)), (9, AV.int .i64 (v0.length : Int)), (10, AV.int .i64 v2), (11, AV.bool (decide (v2 < (v0.length : Int))))] [(0, .grow (List.map (AV.int .u8) v3))] 1 (by simp) (by simp) (by simp) ?_
  refine AW.seq fun K1005 hK1005 => ?_
  by_cases h1 : v2 < (v0.length : Int)
  · replace hF := ite_t h1 hF
    have h1_ := h1
    try simp at h1_
    refine AW.condT (by decide) (by first | (simp [h1, h1_]; done) | (simp [h1, h1_]; omega)) ?_
    refine AW.skip ?_
    refine hK1005 _ _ _ ?_
    refine AW.seq fun K1037 hK1037 => ?_
    refine AW.block ?_
    refine AW.seqR mixed [] [none, none, none] (by kernel_rfl) fun G1038 R1038 hG1038 hR1038 => ?_
    obtain ⟨v4, h2, h3, h4, hF⟩ := idx_elim hF
    have h4_ := get_of h4
    try simp at h4_
    have h3_ := h3
    try simp at h3_
    try simp [h1, h1_, h2, h3, h4, h4_, h3_]
    repeat' apply And.intro
    any_goals (first | exact hG1038 _ (by kernel_rfl) | refine hR1038 _ _ _ ?_ | omega | (unfold maxLen; omega) | (simp [h1, h1_, h2, h3, h4, h4_, h3_]; done) | (simp [h1, h1_, h2, h3, h4, h4_, h3_]; omega))
    refine AW.wk [(0, AV.slc 0 0 1 v3.length false), (6, AV.int .i64 v4), (8, AV.lst false false (List.map (AV.int .i64) v0)), (9, AV.int .i64 (v0.length : Int)), (10, AV.int .i64 v2)] [(0, .grow (List.map (AV.int .u8) v3))] 1 (by simp [h1, h1_, h2, h3, h4, h4_, h3_]) (by simp [h1, h1_, h2, h3, h4, h4_, h3_]) (by simp) ?_
    refine AW.seqR mixed [] [none] (by kernel_rfl) fun G1039 R1039 hG1039 hR1039 => ?_
    try simp [h1, h1_, h2, h3, h4, h4_, h3_]
    repeat' apply And.intro
    any_goals (first | exact hG1039 _ (by kernel_rfl) | refine hR1039 _ _ _ ?_ | omega | (unfold maxLen; omega) | (simp [h1, h1_, h2, h3, h4, h4_, h3_]; done) | (simp [h1, h1_, h2, h3, h4, h4_, h3_]; omega))
    refine AW.wk [(0, AV.slc 0 0 1 v3.length false), (6, AV.int .i64 v4), (7, AV.int .i64 56), (8, AV.lst false false (List.map (AV.int .i64) v0)), (9, AV.int .i64 (v0.length : Int)), (10, AV.int .i64 v2)] [(0, .grow (List.map (AV.int .u8) v3))] 1 (by simp [h1, h1_, h2, h3, h4, h4_, h3_]) (by simp [h1, h1_, h2, h3, h4, h4_, h3_]) (by simp) ?_
    refine AW.block ?_
    refine AW.loopF (α := (Int × (List Int))) (fun n (v5, v6) => beacon_bytes_v3.L2 k v2 v4 (fun v2_ v3_ => beacon_bytes_v3.L1 k v0 n1 v2_ v3_) n v5 v6 = some v1) (fun (v5, v6) => [(0, AV.slc 0 0 1 v6.length false), (6, AV.int .i64 v4), (7, AV.int .i64 v5), (8, AV.lst false false (List.map (AV.int .i64) v0)), (9, AV.int .i64 (v0.length : Int)), (10, AV.int .i64 v2)]) (fun (v5, v6) => [(0, .grow (List.map (AV.int .u8) v6))]) 1 k ((56, v3)) hF (by simp [h1, h1_, h2, h3, h4, h4_, h3_]) (by simp [h1, h1_, h2, h3, h4, h4_, h3_]) (by simp) ?_
    rintro (_|n2) ⟨v5, v6⟩ hF K1061 hK1061
    · try dsimp only at hF
      rw [beacon_bytes_v3.L2] at hF; cases hF
    try dsimp only at hF
    rw [beacon_bytes_v3.L2] at hF
    refine AW.seq fun K1063 hK1063 => ?_
    refine AW.seqR mixed [] [none, none] (by kernel_rfl) fun G1064 R1064 hG1064 hR1064 => ?_
    try simp [h1, h1_, h2, h3, h4, h4_, h3_]
    repeat' apply And.intro
    any_goals (first | exact hG1064 _ (by kernel_rfl) | refine hR1064 _ _ _ ?_ | omega | (unfold maxLen; omega) | (simp [h1, h1_, h2, h3, h4, h4_, h3_]; done) | (simp [h1, h1_, h2, h3, h4, h4_, h3_]; omega))
    refine AW.wk [(0, AV.slc 0 0 1 v6.length false), (6, AV.int .i64 v4), (7, AV.int .i64 v5), (8, AV.lst false false (List.map (AV.int .i64) v0)), (9, AV.int .i64 (v0.length : Int)), (10, AV.int .i64 v2), (15, AV.bool (decide (0 ≤ v5)))] [(0, .grow (List.map (AV.int .u8) v6))] 1 (by simp [h1, h1_, h2, h3, h4, h4_, h3_]) (by simp [h1, h1_, h2, h3, h4, h4_, h3_]) (by simp) ?_
    by_cases h5 : 0 ≤ v5
    · replace hF := ite_t h5 hF
      have h5_ := h5
      try simp at h5_
      refine AW.condT (by decide) (by first | (simp [h1, h1_, h2, h3, h4, h4_, h3_, h5, h5_]; done) | (simp [h1, h1_, h2, h3, h4, h4_, h3_, h5, h5_]; omega)) ?_
      refine AW.skip ?_
      refine hK1063 _ _ _ ?_
      refine AW.seq fun K1066 hK1066 => ?_
      refine AW.block ?_
      refine AW.region mixed [] [none, none, none, none, none, none, none, none, none] (by kernel_rfl) fun G1067 R1067 hG1067 hR1067 => ?_
      obtain ⟨h6, hF⟩ := chk_elim hF
      obtain ⟨h7, hF⟩ := chk_elim hF
      have h7_ := h7
      try simp at h7_
      try simp [h1, h1_, h2, h3, h4, h4_, h3_, h5, h5_, h6, h7]
      repeat' apply And.intro
      any_goals (first | exact hG1067 _ (by kernel_rfl) | refine hR1067 _ _ _ ?_ | omega | (unfold maxLen; omega) | (simp [h1, h1_, h2, h3, h4, h4_, h3_, h5, h5_, h6, h7]; done) | (simp [h1, h1_, h2, h3, h4, h4_, h3_, h5, h5_, h6, h7]; omega))
      refine hK1066 _ _ _ ?_
      refine AW.wk [(0, AV.slc 1 0 1 ((v6 ++ ([IntKind.wrap .u8 (Int.fdiv (IntKind.wrap .u64 v4) (2 ^ (min v5.toNat 64)))] : List Int)).length) false), (6, AV.int .i64 v4), (7, AV.int .i64 v5), (8, AV.lst false false (List.map (AV.int .i64) v0)), (9, AV.int .i64 (v0.length : Int)), (10, AV.int .i64 v2)] [(1, .grow (List.map (AV.int .u8) (v6 ++ ([IntKind.wrap .u8 (Int.fdiv (IntKind.wrap .u64 v4) (2 ^ (min v5.toNat 64)))] : List Int))))] 2 (by simp [h1, h1_, h2, h3, h4, h4_, h3_, h5, h5_, h6, h7] <;> omega) (by simp [h1, h1_, h2, h3, h4, h4_, h3_, h5, h5_, h6, h7]) (by simp) ?_
      refine AW.region mixed [] [none, none, none] (by kernel_rfl) fun G1068 R1068 hG1068 hR1068 => ?_
      try simp [h1, h1_, h2, h3, h4, h4_, h3_, h5, h5_, h6, h7]
      repeat' apply And.intro
      any_goals (first | exact hG1068 _ (by kernel_rfl) | refine hR1068 _ _ _ ?_ | omega | (unfold maxLen; omega) | (simp [h1, h1_, h2, h3, h4, h4_, h3_, h5, h5_, h6, h7]; done) | (simp [h1, h1_, h2, h3, h4, h4_, h3_, h5, h5_, h6, h7]; omega))
      refine hK1061 _ _ _ ?_
      refine Can.weak [(0, AV.slc 1 0 1 ((v6 ++ ([IntKind.wrap .u8 (Int.fdiv (IntKind.wrap .u64 v4) (2 ^ (min v5.toNat 64)))] : List Int)).length) false), (6, AV.int .i64 v4), (7, AV.int .i64 (IntKind.wrap .i64 (v5 - 8))), (8, AV.lst false false (List.map (AV.int .i64) v0)), (9, AV.int .i64 (v0.length : Int)), (10, AV.int .i64 v2)] [(1, .grow (List.map (AV.int .u8) (v6 ++ ([IntKind.wrap .u8 (Int.fdiv (IntKind.wrap .u64 v4) (2 ^ (min v5.toNat 64)))] : List Int))))] 2 (by simp [h1, h1_, h2, h3, h4, h4_, h3_, h5, h5_, h6, h7] <;> omega) (by simp [h1, h1_, h2, h3, h4, h4_, h3_, h5, h5_, h6, h7]) (by simp) ?_
      refine Can.ren (m := 0) h0 [(0, 1)] [(0, AV.slc 0 0 1 ((v6 ++ ([IntKind.wrap .u8 (Int.fdiv (IntKind.wrap .u64 v4) (2 ^ (min v5.toNat 64)))] : List Int)).length) false), (6, AV.int .i64 v4), (7, AV.int .i64 (IntKind.wrap .i64 (v5 - 8))), (8, AV.lst false false (List.map (AV.int .i64) v0)), (9, AV.int .i64 (v0.length : Int)), (10, AV.int .i64 v2)] [(0, .grow (List.map (AV.int .u8) (v6 ++ ([IntKind.wrap .u8 (Int.fdiv (IntKind.wrap .u64 v4) (2 ^ (min v5.toNat 64)))] : List Int))))] 1 (by decide) (by decide) (by decide) rfl (by simp [h1, h1_, h2, h3, h4, h4_, h3_, h5, h5_, h6, h7]) (by simp [h1, h1_, h2, h3, h4, h4_, h3_, h5, h5_, h6, h7]) ?_
      exact Can.next (k' := n2) ((IntKind.wrap .i64 (v5 - 8), v6 ++ ([IntKind.wrap .u8 (Int.fdiv (IntKind.wrap .u64 v4) (2 ^ (min v5.toNat 64)))] : List Int))) (by omega) hF (by simp [h1, h1_, h2, h3, h4, h4_, h3_, h5, h5_, h6, h7]) (by simp [h1, h1_, h2, h3, h4, h4_, h3_, h5, h5_, h6, h7]) (by simp)
    · replace hF := ite_f h5 hF
      have h5_ := h5
      try simp at h5_
      refine AW.condF (by decide) (by first | (simp [h1, h1_, h2, h3, h4, h4_, h3_, h5, h5_]; done) | (simp [h1, h1_, h2, h3, h4, h4_, h3_, h5, h5_]; omega)) ?_
      refine AW.exit ?_
      try simp
      refine hK1037 _ _ _ ?_
      refine AW.region mixed [] [none, none] (by kernel_rfl) fun G1069 R1069 hG1069 hR1069 => ?_
      try simp [h1, h1_, h2, h3, h4, h4_, h3_, h5, h5_]
      repeat' apply And.intro
      any_goals (first | exact hG1069 _ (by kernel_rfl) | refine hR1069 _ _ _ ?_ | omega | (unfold maxLen; omega) | (simp [h1, h1_, h2, h3, h4, h4_, h3_, h5, h5_]; done) | (simp [h1, h1_, h2, h3, h4, h4_, h3_, h5, h5_]; omega))
      refine hK1003 _ _ _ ?_
      refine Can.weak [(0, AV.slc 0 0 1 v6.length false), (8, AV.lst false false (List.map (AV.int .i64) v0)), (9, AV.int .i64 (v0.length : Int)), (10, AV.int .i64 (IntKind.wrap .i64 (v2 + 1)))] [(0, .grow (List.map (AV.int .u8) v6))] 1 (by simp [h1, h1_, h2, h3, h4, h4_, h3_, h5, h5_]) (by simp [h1, h1_, h2, h3, h4, h4_, h3_, h5, h5_]) (by simp) ?_
      exact Can.next (k' := n1) ((IntKind.wrap .i64 (v2 + 1), v6)) (by omega) hF (by simp [h1, h1_, h2, h3, h4, h4_, h3_, h5, h5_]) (by simp [h1, h1_, h2, h3, h4, h4_, h3_, h5, h5_]) (by simp)
  · replace hF := ite_f h1 hF
    have h1_ := h1
    try simp at h1_
    refine AW.condF (by decide) (by first | (simp [h1, h1_]; done) | (simp [h1, h1_]; omega)) ?_
    refine AW.exit ?_
    try simp
    refine hK803 _ _ _ ?_
    refine AW.seqR mixed [] [none, none] (by kernel_rfl) fun G1070 R1070 hG1070 hR1070 => ?_
    try simp [h1, h1_]
    repeat' apply And.intro
    any_goals (first | exact hG1070 _ (by kernel_rfl) | refine hR1070 _ _ _ ?_ | omega | (unfold maxLen; omega) | (simp [h1, h1_]; done) | (simp [h1, h1_]; omega))
    refine AW.wk [(4, AV.slc 0 0 1 v3.length false)] [(0, .grow (List.map (AV.int .u8) v3))] 1 (by simp [h1, h1_]) (by simp [h1, h1_]) (by simp) ?_
    simp only [Option.some.injEq] at hF
    subst hF
    refine AW.ret (hQ _ _ _ ?_ (matchO_0 ?_)).1
    · simp [Try.f82, h1, h1_]
    · simp [h1, h1_]
set_option maxHeartbeats 4000000 in
theorem w_beacon_Commit (k : Nat) (v0 : Int) (v1 : ByteArray) (v2 : ByteArray) (v3 : Int) (hF : beacon_Commit k v0 v1 = some (v2, v3)) :
    FCall Try.prog 44 [AV.int .i64 v0, AV.str v1] [] (AV.tup [AV.str v2, AV.int .i64 v3]) [] := by
  unfold beacon_Commit at hF
  refine FCall.enter Try.func44 rfl (by simp) (by decide) (by simp) (by simp) (by simp) (by simp) (by simp) ?_
  intro c0 w0 Q h0 hQ
  refine AW.wk [(0, AV.int .i64 v0), (1, AV.str v1)] [] 0 (by simp) (by simp) (by simp) ?_
  refine AW.seqR mixed [] [none, none] (by kernel_rfl) fun G12 R12 hG12 hR12 => ?_
  try simp
  repeat' apply And.intro
  any_goals (first | exact hG12 _ (by kernel_rfl) | refine hR12 _ _ _ ?_ | omega | (unfold maxLen; omega) | (simp; done) | (simp; omega))
  refine AW.wk [(0, AV.int .i64 v0), (1, AV.str v1)] [] 0 (by simp) (by simp) (by simp) ?_
  refine AW.seq fun K17 hK17 => ?_
  refine AW.block ?_
  refine AW.seqR mixed [] [none, none, none, none] (by kernel_rfl) fun G18 R18 hG18 hR18 => ?_
  try simp
  repeat' apply And.intro
  try any_goals (first | omega | (unfold maxLen; omega) | (simp; done))
  obtain ⟨v4, h1, hF⟩ := bnd1_elim hF
  refine aCall_l (w_beacon_public k _ _ h1) (by simp) [] [] [] rfl (.cons (.same (by simp)) .nil) (by simp) (by decide) (by simp) (by simp) (.inl rfl) (by simp) (by simp) ?_
  try simp
  repeat' apply And.intro
  any_goals (first | exact hG18 _ (by kernel_rfl) | refine hR18 _ _ _ ?_ | omega | (unfold maxLen; omega) | (simp; done) | (simp; omega))
  refine AW.wk [(0, AV.int .i64 v0), (1, AV.str v1), (6, AV.bool (!v4))] [] 0 (by simp) (by simp) (by simp) ?_
  by_cases h2 : (!v4) = true
  · replace hF := ite_t h2 hF
    have h2_ := h2
    try simp at h2_
    refine AW.condT (by decide) (by first | (simp [h2, h2_]; done) | (simp [h2, h2_]; omega)) ?_
    refine AW.seqR mixed [] [none, none] (by kernel_rfl) fun G19 R19 hG19 hR19 => ?_
    try simp [h2, h2_]
    repeat' apply And.intro
    any_goals (first | exact hG19 _ (by kernel_rfl) | refine hR19 _ _ _ ?_ | omega | (unfold maxLen; omega) | (simp [h2, h2_]; done) | (simp [h2, h2_]; omega))
    refine AW.wk [(4, AV.str (ByteArray.mk #[])), (5, AV.int .i64 2)] [] 0 (by simp [h2, h2_]) (by simp [h2, h2_]) (by simp) ?_
    simp only [Option.some.injEq, Prod.mk.injEq] at hF
    obtain ⟨e0, e1⟩ := hF
    subst e0 e1
    refine AW.ret (hQ _ _ _ ?_ (matchO_0 ?_)).1
    · simp [Try.f44, h2, h2_]
    · simp [h2, h2_]
  · replace hF := ite_f h2 hF
    have h2_ := h2
    try simp at h2_
    refine AW.condF (by decide) (by first | (simp [h2, h2_]; done) | (simp [h2, h2_]; omega)) ?_
    refine AW.seqR mixed [] [none, none, none, none] (by kernel_rfl) fun G20 R20 hG20 hR20 => ?_
    try simp [h2, h2_]
    repeat' apply And.intro
    any_goals (first | exact hG20 _ (by kernel_rfl) | refine hR20 _ _ _ ?_ | omega | (unfold maxLen; omega) | (simp [h2, h2_]; done) | (simp [h2, h2_]; omega))
    refine AW.wk [(0, AV.int .i64 v0), (1, AV.str v1), (10, AV.bool (decide (64 < (v1.size : Int))))] [] 0 (by simp [h2, h2_]) (by simp [h2, h2_]) (by simp) ?_
    by_cases h3 : 64 < (v1.size : Int)
    · replace hF := ite_t h3 hF
      have h3_ := h3
      try simp at h3_
      refine AW.condT (by decide) (by first | (simp [h2, h2_, h3, h3_]; done) | (simp [h2, h2_, h3, h3_]; omega)) ?_
      refine AW.seqR mixed [] [none, none] (by kernel_rfl) fun G21 R21 hG21 hR21 => ?_
      try simp [h2, h2_, h3, h3_]
      repeat' apply And.intro
      any_goals (first | exact hG21 _ (by kernel_rfl) | refine hR21 _ _ _ ?_ | omega | (unfold maxLen; omega) | (simp [h2, h2_, h3, h3_]; done) | (simp [h2, h2_, h3, h3_]; omega))
      refine AW.wk [(4, AV.str (ByteArray.mk #[])), (5, AV.int .i64 3)] [] 0 (by simp [h2, h2_, h3, h3_]) (by simp [h2, h2_, h3, h3_]) (by simp) ?_
      simp only [Option.some.injEq, Prod.mk.injEq] at hF
      obtain ⟨e0, e1⟩ := hF
      subst e0 e1
      refine AW.ret (hQ _ _ _ ?_ (matchO_0 ?_)).1
      · simp [Try.f44, h2, h2_, h3, h3_]
      · simp [h2, h2_, h3, h3_]
    · replace hF := ite_f h3 hF
      have h3_ := h3
      try simp at h3_
      refine AW.condF (by decide) (by first | (simp [h2, h2_, h3, h3_]; done) | (simp [h2, h2_, h3, h3_]; omega)) ?_
      refine AW.skip ?_
      refine hK17 _ _ _ ?_
      refine AW.seqR mixed [] [none, none, none, none, none, none, none, none] (by kernel_rfl) fun G22 R22 hG22 hR22 => ?_
      try simp [h2, h2_, h3, h3_]
      repeat' apply And.intro
      try any_goals (first | omega | (unfold maxLen; omega) | (simp [h2, h2_, h3, h3_]; done))
      obtain ⟨v5, h4, hF⟩ := bnd1_elim hF
      refine aCall_l (w_beacon_bytes_v3 k _ _ h4) (by simp) [] [] [] rfl (.cons (.same (by simp [h2, h2_, h3, h3_])) (.cons (Coe.fl (by simp [h2, h2_, h3, h3_])) .nil)) (by simp [h2, h2_, h3, h3_]) (by decide) (by simp) (by simp) (.inl rfl) (by simp) (by simp) ?_
      obtain ⟨h5, hF⟩ := chk_elim hF
      have h5_ := h5
      try simp at h5_
      try simp [h2, h2_, h3, h3_, h5]
      repeat' apply And.intro
      try any_goals (first | omega | (unfold maxLen; omega) | (simp [h2, h2_, h3, h3_, h5]; done))
      obtain ⟨v6, h6, hF⟩ := bnd1_elim hF
      refine aCall_l (w_digest_Sum k _ _ h6) (by simp) [] [1] [] rfl (.cons (Coe.l (o := .grow (List.map (AV.int .u8) (v5 ++ (bI v1)))) (by simp [h2, h2_, h3, h3_, h5]) rfl (by simp [h2, h2_, h3, h3_, h5]) (by simp [noIdsL]) (by simp [h2, h2_, h3, h3_, h5]) (by simp [h2, h2_, h3, h3_, h5])) .nil) (by simp [h2, h2_, h3, h3_, h5]) (by decide) (by simp) (by simp) (.inr ⟨by simp, by simp⟩) (by simp) (by simp) ?_
      try simp [h2, h2_, h3, h3_, h5]
      repeat' apply And.intro
      any_goals (first | exact hG22 _ (by kernel_rfl) | refine hR22 _ _ _ ?_ | omega | (unfold maxLen; omega) | (simp [h2, h2_, h3, h3_, h5]; done) | (simp [h2, h2_, h3, h3_, h5]; omega))
      refine AW.wk [(4, AV.str v6), (5, AV.int .i64 0)] [] 2 (by simp [h2, h2_, h3, h3_, h5]) (by simp [h2, h2_, h3, h3_, h5]) (by simp) ?_
      simp only [Option.some.injEq, Prod.mk.injEq] at hF
      obtain ⟨e0, e1⟩ := hF
      subst e0 e1
      refine AW.ret (hQ _ _ _ ?_ (matchO_0 ?_)).1
      · simp [Try.f44, h2, h2_, h3, h3_, h5]
      · simp [h2, h2_, h3, h3_, h5]
set_option maxHeartbeats 4000000 in
theorem w_beacon_Opens (k : Nat) (v0 : ByteArray) (v1 : Int) (v2 : ByteArray) (v3 : Bool) (hF : beacon_Opens k v0 v1 v2 = some v3) :
    FCall Try.prog 46 [AV.str v0, AV.int .i64 v1, AV.str v2] [] (AV.bool v3) [] := by
  unfold beacon_Opens at hF
  refine FCall.enter Try.func46 rfl (by simp) (by decide) (by simp) (by simp) (by simp) (by simp) (by simp) ?_
  intro c0 w0 Q h0 hQ
  refine AW.wk [(0, AV.str v0), (1, AV.int .i64 v1), (2, AV.str v2)] [] 0 (by simp) (by simp) (by simp) ?_
  refine AW.seqR mixed [] [none] (by kernel_rfl) fun G4 R4 hG4 hR4 => ?_
  try simp
  repeat' apply And.intro
  any_goals (first | exact hG4 _ (by kernel_rfl) | refine hR4 _ _ _ ?_ | omega | (unfold maxLen; omega) | (simp; done) | (simp; omega))
  refine AW.wk [(0, AV.str v0), (1, AV.int .i64 v1), (2, AV.str v2)] [] 0 (by simp) (by simp) (by simp) ?_
  refine AW.seqR mixed [] [none, none, none, none, none, none, none, none] (by kernel_rfl) fun G5 R5 hG5 hR5 => ?_
  try simp
  repeat' apply And.intro
  try any_goals (first | omega | (unfold maxLen; omega) | (simp; done))
  obtain ⟨v4, v5, h1, hF⟩ := bnd2_elim hF
  refine aCall_l (w_beacon_Commit k _ _ _ _ h1) (by simp) [] [] [] rfl (.cons (.same (by simp)) (.cons (.same (by simp)) .nil)) (by simp) (by decide) (by simp) (by simp) (.inl rfl) (by simp) (by simp) ?_
  try simp
  repeat' apply And.intro
  any_goals (first | exact hG5 _ (by kernel_rfl) | refine hR5 _ _ _ ?_ | omega | (unfold maxLen; omega) | (simp; done) | (simp; omega))
  refine AW.wk [(0, AV.str v0), (7, AV.str v4), (8, AV.int .i64 v5)] [] 0 (by simp) (by simp) (by simp) ?_
  refine AW.seqR mixed [] [none, none, none, some (17, true), some (17, true), some (17, true), none, none] (by kernel_rfl) fun G6 R6 hG6 hR6 => ?_
  by_cases h2 : v5 = 0
  · replace hF := ite_t h2 hF
    have h2q : v5 = 0 := h2
    have h2_ := eqb_t h2q
    have h2__ := neb_f h2q
    try simp [h2_, h2__, h2q]
    repeat' apply And.intro
    any_goals (first | exact hG6 _ (by kernel_rfl) | refine hR6 _ _ _ ?_ | omega | (unfold maxLen; omega) | (simp [h2_, h2__, h2q]; done) | (simp [h2_, h2__, h2q]; omega))
    refine AW.wk [(6, AV.bool (strEq v4 v0))] [] 0 (by simp [h2_, h2__, h2q]) (by simp [h2_, h2__, h2q]) (by simp) ?_
    simp only [Option.some.injEq] at hF
    subst hF
    refine AW.ret (hQ _ _ _ ?_ (matchO_0 ?_)).1
    · simp [Try.f46, h2_, h2__, h2q]
    · simp [h2_, h2__, h2q]
  · replace hF := ite_f h2 hF
    have h2_ := eqb_f h2
    have h2__ := neb_t h2
    try simp [h2, h2_, h2__]
    repeat' apply And.intro
    any_goals (first | exact hG6 _ (by kernel_rfl) | refine hR6 _ _ _ ?_ | omega | (unfold maxLen; omega) | (simp [h2, h2_, h2__]; done) | (simp [h2, h2_, h2__]; omega))
    refine AW.wk [(6, AV.bool false)] [] 0 (by simp [h2, h2_, h2__]) (by simp [h2, h2_, h2__]) (by simp) ?_
    simp only [Option.some.injEq] at hF
    subst hF
    refine AW.ret (hQ _ _ _ ?_ (matchO_0 ?_)).1
    · simp [Try.f46, h2, h2_, h2__]
    · simp [h2, h2_, h2__]
set_option maxHeartbeats 4000000 in
theorem w_law25_awake (k : Nat) (v0 : Bool) (hF : law25_awake k = some v0) :
    FCall Try.prog 37 [] [] (AV.bool v0) [] := by
  unfold law25_awake at hF
  refine FCall.enter Try.func37 rfl (by simp) (by decide) (by simp) (by simp) (by simp) (by simp) (by simp) ?_
  intro c0 w0 Q h0 hQ
  refine AW.wk [] [] 0 (by simp [-List.reduceReplicate, sOf_set, ofI_set, allU8_set]) (by simp [-List.reduceReplicate, sOf_set, ofI_set, allU8_set]) (by simp) ?_
  refine AW.seqR mixed [] [none] (by kernel_rfl) fun G6 R6 hG6 hR6 => ?_
  try simp [-List.reduceReplicate, sOf_set, ofI_set, allU8_set]
  repeat' apply And.intro
  any_goals (first | exact hG6 _ (by kernel_rfl) | refine hR6 _ _ _ ?_ | omega | (unfold maxLen; omega) | (simp [-List.reduceReplicate, sOf_set, ofI_set, allU8_set]; done) | (simp [-List.reduceReplicate, sOf_set, ofI_set, allU8_set]; omega))
  refine AW.wk [] [] 0 (by simp [-List.reduceReplicate, sOf_set, ofI_set, allU8_set]) (by simp [-List.reduceReplicate, sOf_set, ofI_set, allU8_set]) (by simp) ?_
  refine AW.seqR mixed [] [none, none, none, none, none, none, none] (by kernel_rfl) fun G7 R7 hG7 hR7 => ?_
  try simp [-List.reduceReplicate, sOf_set, ofI_set, allU8_set]
  repeat' apply And.intro
  try any_goals (first | omega | (unfold maxLen; omega) | (simp [-List.reduceReplicate, sOf_set, ofI_set, allU8_set]; done))
  obtain ⟨v1, v2, h1, hF⟩ := bnd2_elim hF
  refine aCall_l (w_beacon_Mix k _ _ _ _ h1) (by simp) [] [] [] rfl (.cons (Coe.fl (by simp)) (.cons (.same (by simp)) .nil)) (by simp [-List.reduceReplicate, sOf_set, ofI_set, allU8_set]) (by decide) (by simp) (by simp) (.inl rfl) (by simp) (by simp) ?_
  try simp [-List.reduceReplicate, sOf_set, ofI_set, allU8_set]
  repeat' apply And.intro
  any_goals (first | exact hG7 _ (by kernel_rfl) | refine hR7 _ _ _ ?_ | omega | (unfold maxLen; omega) | (simp [-List.reduceReplicate, sOf_set, ofI_set, allU8_set]; done) | (simp [-List.reduceReplicate, sOf_set, ofI_set, allU8_set]; omega))
  refine AW.wk [(1, AV.int .i64 v1), (2, AV.int .i64 v2)] [] 0 (by simp [-List.reduceReplicate, sOf_set, ofI_set, allU8_set]) (by simp [-List.reduceReplicate, sOf_set, ofI_set, allU8_set]) (by simp) ?_
  refine AW.seqR mixed [] [none, none, none, none, none, none, none, none] (by kernel_rfl) fun G8 R8 hG8 hR8 => ?_
  obtain ⟨h2, hF⟩ := chk_elim hF
  try simp [-List.reduceReplicate, sOf_set, ofI_set, allU8_set, h2]
  repeat' apply And.intro
  try any_goals (first | omega | (unfold maxLen; omega) | (simp [-List.reduceReplicate, sOf_set, ofI_set, allU8_set, h2]; done))
  obtain ⟨v3, v4, h3, hF⟩ := bnd2_elim hF
  refine aCall_l (w_beacon_Numbers k _ _ _ _ _ h3) (by simp) [] [] [] rfl (.cons (.same (by simp [-List.reduceReplicate, sOf_set, ofI_set, allU8_set, h2])) (.cons (Coe.fl (by simp [-List.reduceReplicate, sOf_set, ofI_set, allU8_set, h2])) (.cons (.same (by simp [-List.reduceReplicate, sOf_set, ofI_set, allU8_set, h2])) .nil))) (by simp [-List.reduceReplicate, sOf_set, ofI_set, allU8_set, h2]) (by decide) (by simp) (by simp) (.inl rfl) (by simp) (by simp) ?_
  try simp [-List.reduceReplicate, sOf_set, ofI_set, allU8_set, h2]
  repeat' apply And.intro
  any_goals (first | exact hG8 _ (by kernel_rfl) | refine hR8 _ _ _ ?_ | omega | (unfold maxLen; omega) | (simp [-List.reduceReplicate, sOf_set, ofI_set, allU8_set, h2]; done) | (simp [-List.reduceReplicate, sOf_set, ofI_set, allU8_set, h2]; omega))
  refine AW.wk [(1, AV.int .i64 v1), (2, AV.int .i64 v2), (3, AV.slc 0 0 1 v3.length false), (4, AV.int .i64 v4)] [(0, .grow (List.map (AV.int .i64) v3))] 1 (by simp [-List.reduceReplicate, sOf_set, ofI_set, allU8_set, h2]) (by simp [-List.reduceReplicate, sOf_set, ofI_set, allU8_set, h2]) (by simp) ?_
  refine AW.frz 0 (o := .grow (List.map (AV.int .i64) v3)) (by simp [-List.reduceReplicate, sOf_set, ofI_set, allU8_set, h2]) rfl [(3, AV.lst false false (List.map (AV.int .i64) v3))] [] ⟨(.l (by simp) (by simp) (by simp) (by simp)), trivial⟩ trivial ?_
  refine AW.wk [(1, AV.int .i64 v1), (2, AV.int .i64 v2), (3, AV.lst false false (List.map (AV.int .i64) v3)), (4, AV.int .i64 v4)] [] 1 (by simp [-List.reduceReplicate, sOf_set, ofI_set, allU8_set, h2]) (by simp [-List.reduceReplicate, sOf_set, ofI_set, allU8_set, h2]) (by simp) ?_
  refine AW.seqR mixed [] [none, none, none, none, none, none] (by kernel_rfl) fun G9 R9 hG9 hR9 => ?_
  try simp [-List.reduceReplicate, sOf_set, ofI_set, allU8_set, h2]
  repeat' apply And.intro
  try any_goals (first | omega | (unfold maxLen; omega) | (simp [-List.reduceReplicate, sOf_set, ofI_set, allU8_set, h2]; done))
  obtain ⟨v5, v6, h4, hF⟩ := bnd2_elim hF
  refine aCall_l (w_beacon_Commit k _ _ _ _ h4) (by simp) [] [] [] rfl (.cons (.same (by simp [-List.reduceReplicate, sOf_set, ofI_set, allU8_set, h2])) (.cons (.same (by simp [-List.reduceReplicate, sOf_set, ofI_set, allU8_set, h2])) .nil)) (by simp [-List.reduceReplicate, sOf_set, ofI_set, allU8_set, h2]) (by decide) (by simp) (by simp) (.inl rfl) (by simp) (by simp) ?_
  try simp [-List.reduceReplicate, sOf_set, ofI_set, allU8_set, h2]
  repeat' apply And.intro
  any_goals (first | exact hG9 _ (by kernel_rfl) | refine hR9 _ _ _ ?_ | omega | (unfold maxLen; omega) | (simp [-List.reduceReplicate, sOf_set, ofI_set, allU8_set, h2]; done) | (simp [-List.reduceReplicate, sOf_set, ofI_set, allU8_set, h2]; omega))
  refine AW.wk [(1, AV.int .i64 v1), (2, AV.int .i64 v2), (3, AV.lst false false (List.map (AV.int .i64) v3)), (4, AV.int .i64 v4), (5, AV.str v5), (6, AV.int .i64 v6)] [] 1 (by simp [-List.reduceReplicate, sOf_set, ofI_set, allU8_set, h2]) (by simp [-List.reduceReplicate, sOf_set, ofI_set, allU8_set, h2]) (by simp) ?_
  refine AW.seqR mixed [] [none, none, none, some (24, true), some (24, true), none, none, some (28, true), some (28, true), none, none, some (32, true), some (32, true), none, none, some (36, true), some (36, true), some (36, true), none, none, some (41, true), some (41, true), some (41, true), some (41, true), some (41, true), some (41, true), some (41, true), none, none, some (50, true), some (50, true), none, none, some (54, true), some (54, true), some (54, true), none, none] (by kernel_rfl) fun G10 R10 hG10 hR10 => ?_
  by_cases h5 : v2 = 0
  · replace hF := ite_t h5 hF
    have h5q : v2 = 0 := h5
    have h5_ := eqb_t h5q
    have h5__ := neb_f h5q
    by_cases h6 : v4 = 0
    · replace hF := ite_t h6 hF
      have h6q : v4 = 0 := h6
      have h6_ := eqb_t h6q
      have h6__ := neb_f h6q
      by_cases h7 : v6 = 0
      · replace hF := ite_t h7 hF
        have h7q : v6 = 0 := h7
        have h7_ := eqb_t h7q
        have h7__ := neb_f h7q
        by_cases h8 : v1 = 2
        · replace hF := ite_t h8 hF
          have h8q : v1 = 2 := h8
          have h8_ := eqb_t h8q
          have h8__ := neb_f h8q
          by_cases h9 : (v3.length : Int) = 2
          · replace hF := ite_t h9 hF
            have h9q : (v3.length : Int) = 2 := h9
            have h9_ := eqb_t h9q
            have h9__ := neb_f h9q
            obtain ⟨v7, h10, h11, h12, hF⟩ := idx_elim hF
            have h12_ := get_of h12
            try simp [-List.reduceReplicate] at h12_
            have h11_ := h11
            try simp [-List.reduceReplicate] at h11_
            have h12z := head_of h12
            obtain ⟨v8, h13, h14, h15, hF⟩ := idx_elim hF
            have h15_ := get_of h15
            try simp [-List.reduceReplicate] at h15_
            have h14_ := h14
            try simp [-List.reduceReplicate] at h14_
            by_cases h16 : v7 ≠ v8
            · replace hF := ite_t h16 hF
              have h16_ := eqb_f h16
              have h16__ := neb_t h16
              try simp [-List.reduceReplicate, sOf_set, ofI_set, allU8_set, h2, h5_, h5__, h5q, h6_, h6__, h6q, h7_, h7__, h7q, h8_, h8__, h8q, h9_, h9__, h9q, h10, h11, h12, h12_, h11_, h12z, h13, h14, h15, h15_, h14_, h16, h16_, h16__]
              repeat' apply And.intro
              try any_goals (first | omega | (unfold maxLen; omega) | (simp [-List.reduceReplicate, sOf_set, ofI_set, allU8_set, h2, h5_, h5__, h5q, h6_, h6__, h6q, h7_, h7__, h7q, h8_, h8__, h8q, h9_, h9__, h9q, h10, h11, h12, h12_, h11_, h12z, h13, h14, h15, h15_, h14_, h16, h16_, h16__]; done))
              obtain ⟨v9, h17, hF⟩ := bnd1_elim hF
              refine aCall_l (w_beacon_Opens k _ _ _ _ h17) (by simp) [] [] [] rfl (.cons (.same (by simp [-List.reduceReplicate, sOf_set, ofI_set, allU8_set, h2, h5_, h5__, h5q, h6_, h6__, h6q, h7_, h7__, h7q, h8_, h8__, h8q, h9_, h9__, h9q, h10, h11, h12, h12_, h11_, h12z, h13, h14, h15, h15_, h14_, h16, h16_, h16__])) (.cons (.same (by simp [-List.reduceReplicate, sOf_set, ofI_set, allU8_set, h2, h5_, h5__, h5q, h6_, h6__, h6q, h7_, h7__, h7q, h8_, h8__, h8q, h9_, h9__, h9q, h10, h11, h12, h12_, h11_, h12z, h13, h14, h15, h15_, h14_, h16, h16_, h16__])) (.cons (.same (by simp [-List.reduceReplicate, sOf_set, ofI_set, allU8_set, h2, h5_, h5__, h5q, h6_, h6__, h6q, h7_, h7__, h7q, h8_, h8__, h8q, h9_, h9__, h9q, h10, h11, h12, h12_, h11_, h12z, h13, h14, h15, h15_, h14_, h16, h16_, h16__])) .nil))) (by simp [-List.reduceReplicate, sOf_set, ofI_set, allU8_set, h2, h5_, h5__, h5q, h6_, h6__, h6q, h7_, h7__, h7q, h8_, h8__, h8q, h9_, h9__, h9q, h10, h11, h12, h12_, h11_, h12z, h13, h14, h15, h15_, h14_, h16, h16_, h16__]) (by decide) (by simp) (by simp) (.inl rfl) (by simp) (by simp) ?_
              by_cases h18 : v9 = true
              · replace hF := ite_t h18 hF
                have h18_ := h18
                try simp [-List.reduceReplicate] at h18_
                try simp [-List.reduceReplicate, sOf_set, ofI_set, allU8_set, h2, h5_, h5__, h5q, h6_, h6__, h6q, h7_, h7__, h7q, h8_, h8__, h8q, h9_, h9__, h9q, h10, h11, h12, h12_, h11_, h12z, h13, h14, h15, h15_, h14_, h16, h16_, h16__, h18, h18_]
                repeat' apply And.intro
                try any_goals (first | omega | (unfold maxLen; omega) | (simp [-List.reduceReplicate, sOf_set, ofI_set, allU8_set, h2, h5_, h5__, h5q, h6_, h6__, h6q, h7_, h7__, h7q, h8_, h8__, h8q, h9_, h9__, h9q, h10, h11, h12, h12_, h11_, h12z, h13, h14, h15, h15_, h14_, h16, h16_, h16__, h18, h18_]; done))
                obtain ⟨v10, h19, hF⟩ := bnd1_elim hF
                refine aCall_l (w_beacon_Opens k _ _ _ _ h19) (by simp) [] [] [] rfl (.cons (.same (by simp [-List.reduceReplicate, sOf_set, ofI_set, allU8_set, h2, h5_, h5__, h5q, h6_, h6__, h6q, h7_, h7__, h7q, h8_, h8__, h8q, h9_, h9__, h9q, h10, h11, h12, h12_, h11_, h12z, h13, h14, h15, h15_, h14_, h16, h16_, h16__, h18, h18_])) (.cons (.same (by simp [-List.reduceReplicate, sOf_set, ofI_set, allU8_set, h2, h5_, h5__, h5q, h6_, h6__, h6q, h7_, h7__, h7q, h8_, h8__, h8q, h9_, h9__, h9q, h10, h11, h12, h12_, h11_, h12z, h13, h14, h15, h15_, h14_, h16, h16_, h16__, h18, h18_])) (.cons (.same (by simp [-List.reduceReplicate, sOf_set, ofI_set, allU8_set, h2, h5_, h5__, h5q, h6_, h6__, h6q, h7_, h7__, h7q, h8_, h8__, h8q, h9_, h9__, h9q, h10, h11, h12, h12_, h11_, h12z, h13, h14, h15, h15_, h14_, h16, h16_, h16__, h18, h18_])) .nil))) (by simp [-List.reduceReplicate, sOf_set, ofI_set, allU8_set, h2, h5_, h5__, h5q, h6_, h6__, h6q, h7_, h7__, h7q, h8_, h8__, h8q, h9_, h9__, h9q, h10, h11, h12, h12_, h11_, h12z, h13, h14, h15, h15_, h14_, h16, h16_, h16__, h18, h18_]) (by decide) (by simp) (by simp) (.inl rfl) (by simp) (by simp) ?_
                try simp [-List.reduceReplicate, sOf_set, ofI_set, allU8_set, h2, h5_, h5__, h5q, h6_, h6__, h6q, h7_, h7__, h7q, h8_, h8__, h8q, h9_, h9__, h9q, h10, h11, h12, h12_, h11_, h12z, h13, h14, h15, h15_, h14_, h16, h16_, h16__, h18, h18_]
                repeat' apply And.intro
                any_goals (first | exact hG10 _ (by kernel_rfl) | refine hR10 _ _ _ ?_ | omega | (unfold maxLen; omega) | (simp [-List.reduceReplicate, sOf_set, ofI_set, allU8_set, h2, h5_, h5__, h5q, h6_, h6__, h6q, h7_, h7__, h7q, h8_, h8__, h8q, h9_, h9__, h9q, h10, h11, h12, h12_, h11_, h12z, h13, h14, h15, h15_, h14_, h16, h16_, h16__, h18, h18_]; done) | (simp [-List.reduceReplicate, sOf_set, ofI_set, allU8_set, h2, h5_, h5__, h5q, h6_, h6__, h6q, h7_, h7__, h7q, h8_, h8__, h8q, h9_, h9__, h9q, h10, h11, h12, h12_, h11_, h12z, h13, h14, h15, h15_, h14_, h16, h16_, h16__, h18, h18_]; omega))
                refine AW.wk [(0, AV.bool (!v10))] [] 1 (by simp [-List.reduceReplicate, sOf_set, ofI_set, allU8_set, h2, h5_, h5__, h5q, h6_, h6__, h6q, h7_, h7__, h7q, h8_, h8__, h8q, h9_, h9__, h9q, h10, h11, h12, h12_, h11_, h12z, h13, h14, h15, h15_, h14_, h16, h16_, h16__, h18, h18_]) (by simp [-List.reduceReplicate, sOf_set, ofI_set, allU8_set, h2, h5_, h5__, h5q, h6_, h6__, h6q, h7_, h7__, h7q, h8_, h8__, h8q, h9_, h9__, h9q, h10, h11, h12, h12_, h11_, h12z, h13, h14, h15, h15_, h14_, h16, h16_, h16__, h18, h18_]) (by simp) ?_
                simp only [Option.some.injEq] at hF
                subst hF
                refine AW.ret (hQ _ _ _ ?_ (matchO_0 ?_)).1
                · simp [Try.f37, h2, h5_, h5__, h5q, h6_, h6__, h6q, h7_, h7__, h7q, h8_, h8__, h8q, h9_, h9__, h9q, h10, h11, h12, h12_, h11_, h12z, h13, h14, h15, h15_, h14_, h16, h16_, h16__, h18, h18_]
                · simp [h2, h5_, h5__, h5q, h6_, h6__, h6q, h7_, h7__, h7q, h8_, h8__, h8q, h9_, h9__, h9q, h10, h11, h12, h12_, h11_, h12z, h13, h14, h15, h15_, h14_, h16, h16_, h16__, h18, h18_]
              · replace hF := ite_f h18 hF
                have h18_ := h18
                try simp [-List.reduceReplicate] at h18_
                try simp [-List.reduceReplicate, sOf_set, ofI_set, allU8_set, h2, h5_, h5__, h5q, h6_, h6__, h6q, h7_, h7__, h7q, h8_, h8__, h8q, h9_, h9__, h9q, h10, h11, h12, h12_, h11_, h12z, h13, h14, h15, h15_, h14_, h16, h16_, h16__, h18, h18_]
                repeat' apply And.intro
                any_goals (first | exact hG10 _ (by kernel_rfl) | refine hR10 _ _ _ ?_ | omega | (unfold maxLen; omega) | (simp [-List.reduceReplicate, sOf_set, ofI_set, allU8_set, h2, h5_, h5__, h5q, h6_, h6__, h6q, h7_, h7__, h7q, h8_, h8__, h8q, h9_, h9__, h9q, h10, h11, h12, h12_, h11_, h12z, h13, h14, h15, h15_, h14_, h16, h16_, h16__, h18, h18_]; done) | (simp [-List.reduceReplicate, sOf_set, ofI_set, allU8_set, h2, h5_, h5__, h5q, h6_, h6__, h6q, h7_, h7__, h7q, h8_, h8__, h8q, h9_, h9__, h9q, h10, h11, h12, h12_, h11_, h12z, h13, h14, h15, h15_, h14_, h16, h16_, h16__, h18, h18_]; omega))
                refine AW.wk [(0, AV.bool false)] [] 1 (by simp [-List.reduceReplicate, sOf_set, ofI_set, allU8_set, h2, h5_, h5__, h5q, h6_, h6__, h6q, h7_, h7__, h7q, h8_, h8__, h8q, h9_, h9__, h9q, h10, h11, h12, h12_, h11_, h12z, h13, h14, h15, h15_, h14_, h16, h16_, h16__, h18, h18_]) (by simp [-List.reduceReplicate, sOf_set, ofI_set, allU8_set, h2, h5_, h5__, h5q, h6_, h6__, h6q, h7_, h7__, h7q, h8_, h8__, h8q, h9_, h9__, h9q, h10, h11, h12, h12_, h11_, h12z, h13, h14, h15, h15_, h14_, h16, h16_, h16__, h18, h18_]) (by simp) ?_
                simp only [Option.some.injEq] at hF
                subst hF
                refine AW.ret (hQ _ _ _ ?_ (matchO_0 ?_)).1
                · simp [Try.f37, h2, h5_, h5__, h5q, h6_, h6__, h6q, h7_, h7__, h7q, h8_, h8__, h8q, h9_, h9__, h9q, h10, h11, h12, h12_, h11_, h12z, h13, h14, h15, h15_, h14_, h16, h16_, h16__, h18, h18_]
                · simp [h2, h5_, h5__, h5q, h6_, h6__, h6q, h7_, h7__, h7q, h8_, h8__, h8q, h9_, h9__, h9q, h10, h11, h12, h12_, h11_, h12z, h13, h14, h15, h15_, h14_, h16, h16_, h16__, h18, h18_]
            · replace hF := ite_f h16 hF
              have h16q : v7 = v8 := Classical.not_not.1 h16
              have h16_ := eqb_t h16q
              have h16__ := neb_f h16q
              try simp [-List.reduceReplicate, sOf_set, ofI_set, allU8_set, h2, h5_, h5__, h5q, h6_, h6__, h6q, h7_, h7__, h7q, h8_, h8__, h8q, h9_, h9__, h9q, h10, h11, h12, h12_, h11_, h12z, h13, h14, h15, h15_, h14_, h16_, h16__]
              repeat' apply And.intro
              any_goals (first | exact hG10 _ (by kernel_rfl) | refine hR10 _ _ _ ?_ | omega | (unfold maxLen; omega) | (simp [-List.reduceReplicate, sOf_set, ofI_set, allU8_set, h2, h5_, h5__, h5q, h6_, h6__, h6q, h7_, h7__, h7q, h8_, h8__, h8q, h9_, h9__, h9q, h10, h11, h12, h12_, h11_, h12z, h13, h14, h15, h15_, h14_, h16_, h16__]; done) | (simp [-List.reduceReplicate, sOf_set, ofI_set, allU8_set, h2, h5_, h5__, h5q, h6_, h6__, h6q, h7_, h7__, h7q, h8_, h8__, h8q, h9_, h9__, h9q, h10, h11, h12, h12_, h11_, h12z, h13, h14, h15, h15_, h14_, h16_, h16__]; omega))
              refine AW.wk [(0, AV.bool false)] [] 1 (by simp [-List.reduceReplicate, sOf_set, ofI_set, allU8_set, h2, h5_, h5__, h5q, h6_, h6__, h6q, h7_, h7__, h7q, h8_, h8__, h8q, h9_, h9__, h9q, h10, h11, h12, h12_, h11_, h12z, h13, h14, h15, h15_, h14_, h16_, h16__]) (by simp [-List.reduceReplicate, sOf_set, ofI_set, allU8_set, h2, h5_, h5__, h5q, h6_, h6__, h6q, h7_, h7__, h7q, h8_, h8__, h8q, h9_, h9__, h9q, h10, h11, h12, h12_, h11_, h12z, h13, h14, h15, h15_, h14_, h16_, h16__]) (by simp) ?_
              simp only [Option.some.injEq] at hF
              subst hF
              refine AW.ret (hQ _ _ _ ?_ (matchO_0 ?_)).1
              · simp [Try.f37, h2, h5_, h5__, h5q, h6_, h6__, h6q, h7_, h7__, h7q, h8_, h8__, h8q, h9_, h9__, h9q, h10, h11, h12, h12_, h11_, h12z, h13, h14, h15, h15_, h14_, h16_, h16__]
              · simp [h2, h5_, h5__, h5q, h6_, h6__, h6q, h7_, h7__, h7q, h8_, h8__, h8q, h9_, h9__, h9q, h10, h11, h12, h12_, h11_, h12z, h13, h14, h15, h15_, h14_, h16_, h16__]
          · replace hF := ite_f h9 hF
            have h9_ := eqb_f h9
            have h9__ := neb_t h9
            try simp [-List.reduceReplicate, sOf_set, ofI_set, allU8_set, h2, h5_, h5__, h5q, h6_, h6__, h6q, h7_, h7__, h7q, h8_, h8__, h8q, h9, h9_, h9__]
            repeat' apply And.intro
            any_goals (first | exact hG10 _ (by kernel_rfl) | refine hR10 _ _ _ ?_ | omega | (unfold maxLen; omega) | (simp [-List.reduceReplicate, sOf_set, ofI_set, allU8_set, h2, h5_, h5__, h5q, h6_, h6__, h6q, h7_, h7__, h7q, h8_, h8__, h8q, h9, h9_, h9__]; done) | (simp [-List.reduceReplicate, sOf_set, ofI_set, allU8_set, h2, h5_, h5__, h5q, h6_, h6__, h6q, h7_, h7__, h7q, h8_, h8__, h8q, h9, h9_, h9__]; omega))
            refine AW.wk [(0, AV.bool false)] [] 1 (by simp [-List.reduceReplicate, sOf_set, ofI_set, allU8_set, h2, h5_, h5__, h5q, h6_, h6__, h6q, h7_, h7__, h7q, h8_, h8__, h8q, h9, h9_, h9__]) (by simp [-List.reduceReplicate, sOf_set, ofI_set, allU8_set, h2, h5_, h5__, h5q, h6_, h6__, h6q, h7_, h7__, h7q, h8_, h8__, h8q, h9, h9_, h9__]) (by simp) ?_
            simp only [Option.some.injEq] at hF
            subst hF
            refine AW.ret (hQ _ _ _ ?_ (matchO_0 ?_)).1
            · simp [Try.f37, h2, h5_, h5__, h5q, h6_, h6__, h6q, h7_, h7__, h7q, h8_, h8__, h8q, h9, h9_, h9__]
            · simp [h2, h5_, h5__, h5q, h6_, h6__, h6q, h7_, h7__, h7q, h8_, h8__, h8q, h9, h9_, h9__]
        · replace hF := ite_f h8 hF
          have h8_ := eqb_f h8
          have h8__ := neb_t h8
          try simp [-List.reduceReplicate, sOf_set, ofI_set, allU8_set, h2, h5_, h5__, h5q, h6_, h6__, h6q, h7_, h7__, h7q, h8, h8_, h8__]
          repeat' apply And.intro
          any_goals (first | exact hG10 _ (by kernel_rfl) | refine hR10 _ _ _ ?_ | omega | (unfold maxLen; omega) | (simp [-List.reduceReplicate, sOf_set, ofI_set, allU8_set, h2, h5_, h5__, h5q, h6_, h6__, h6q, h7_, h7__, h7q, h8, h8_, h8__]; done) | (simp [-List.reduceReplicate, sOf_set, ofI_set, allU8_set, h2, h5_, h5__, h5q, h6_, h6__, h6q, h7_, h7__, h7q, h8, h8_, h8__]; omega))
          refine AW.wk [(0, AV.bool false)] [] 1 (by simp [-List.reduceReplicate, sOf_set, ofI_set, allU8_set, h2, h5_, h5__, h5q, h6_, h6__, h6q, h7_, h7__, h7q, h8, h8_, h8__]) (by simp [-List.reduceReplicate, sOf_set, ofI_set, allU8_set, h2, h5_, h5__, h5q, h6_, h6__, h6q, h7_, h7__, h7q, h8, h8_, h8__]) (by simp) ?_
          simp only [Option.some.injEq] at hF
          subst hF
          refine AW.ret (hQ _ _ _ ?_ (matchO_0 ?_)).1
          · simp [Try.f37, h2, h5_, h5__, h5q, h6_, h6__, h6q, h7_, h7__, h7q, h8, h8_, h8__]
          · simp [h2, h5_, h5__, h5q, h6_, h6__, h6q, h7_, h7__, h7q, h8, h8_, h8__]
      · replace hF := ite_f h7 hF
        have h7_ := eqb_f h7
        have h7__ := neb_t h7
        try simp [-List.reduceReplicate, sOf_set, ofI_set, allU8_set, h2, h5_, h5__, h5q, h6_, h6__, h6q, h7, h7_, h7__]
        repeat' apply And.intro
        any_goals (first | exact hG10 _ (by kernel_rfl) | refine hR10 _ _ _ ?_ | omega | (unfold maxLen; omega) | (simp [-List.reduceReplicate, sOf_set, ofI_set, allU8_set, h2, h5_, h5__, h5q, h6_, h6__, h6q, h7, h7_, h7__]; done) | (simp [-List.reduceReplicate, sOf_set, ofI_set, allU8_set, h2, h5_, h5__, h5q, h6_, h6__, h6q, h7, h7_, h7__]; omega))
        refine AW.wk [(0, AV.bool false)] [] 1 (by simp [-List.reduceReplicate, sOf_set, ofI_set, allU8_set, h2, h5_, h5__, h5q, h6_, h6__, h6q, h7, h7_, h7__]) (by simp [-List.reduceReplicate, sOf_set, ofI_set, allU8_set, h2, h5_, h5__, h5q, h6_, h6__, h6q, h7, h7_, h7__]) (by simp) ?_
        simp only [Option.some.injEq] at hF
        subst hF
        refine AW.ret (hQ _ _ _ ?_ (matchO_0 ?_)).1
        · simp [Try.f37, h2, h5_, h5__, h5q, h6_, h6__, h6q, h7, h7_, h7__]
        · simp [h2, h5_, h5__, h5q, h6_, h6__, h6q, h7, h7_, h7__]
    · replace hF := ite_f h6 hF
      have h6_ := eqb_f h6
      have h6__ := neb_t h6
      try simp [-List.reduceReplicate, sOf_set, ofI_set, allU8_set, h2, h5_, h5__, h5q, h6, h6_, h6__]
      repeat' apply And.intro
      any_goals (first | exact hG10 _ (by kernel_rfl) | refine hR10 _ _ _ ?_ | omega | (unfold maxLen; omega) | (simp [-List.reduceReplicate, sOf_set, ofI_set, allU8_set, h2, h5_, h5__, h5q, h6, h6_, h6__]; done) | (simp [-List.reduceReplicate, sOf_set, ofI_set, allU8_set, h2, h5_, h5__, h5q, h6, h6_, h6__]; omega))
      refine AW.wk [(0, AV.bool false)] [] 1 (by simp [-List.reduceReplicate, sOf_set, ofI_set, allU8_set, h2, h5_, h5__, h5q, h6, h6_, h6__]) (by simp [-List.reduceReplicate, sOf_set, ofI_set, allU8_set, h2, h5_, h5__, h5q, h6, h6_, h6__]) (by simp) ?_
      simp only [Option.some.injEq] at hF
      subst hF
      refine AW.ret (hQ _ _ _ ?_ (matchO_0 ?_)).1
      · simp [Try.f37, h2, h5_, h5__, h5q, h6, h6_, h6__]
      · simp [h2, h5_, h5__, h5q, h6, h6_, h6__]
  · replace hF := ite_f h5 hF
    have h5_ := eqb_f h5
    have h5__ := neb_t h5
    try simp [-List.reduceReplicate, sOf_set, ofI_set, allU8_set, h2, h5, h5_, h5__]
    repeat' apply And.intro
    any_goals (first | exact hG10 _ (by kernel_rfl) | refine hR10 _ _ _ ?_ | omega | (unfold maxLen; omega) | (simp [-List.reduceReplicate, sOf_set, ofI_set, allU8_set, h2, h5, h5_, h5__]; done) | (simp [-List.reduceReplicate, sOf_set, ofI_set, allU8_set, h2, h5, h5_, h5__]; omega))
    refine AW.wk [(0, AV.bool false)] [] 1 (by simp [-List.reduceReplicate, sOf_set, ofI_set, allU8_set, h2, h5, h5_, h5__]) (by simp [-List.reduceReplicate, sOf_set, ofI_set, allU8_set, h2, h5, h5_, h5__]) (by simp) ?_
    simp only [Option.some.injEq] at hF
    subst hF
    refine AW.ret (hQ _ _ _ ?_ (matchO_0 ?_)).1
    · simp [Try.f37, h2, h5, h5_, h5__]
    · simp [h2, h5, h5_, h5__]
set_option maxHeartbeats 4000000 in
theorem w_law25_BeaconMixes (k : Nat) (v0 : (List Int)) (v1 : Int) (v2 : Int) (v3 : Int) (v4 : Bool) (hF : law25_BeaconMixes k v0 v1 v2 v3 = some v4) :
    FCall Try.prog 8 [AV.lst false false (List.map (AV.int .u32) v0), AV.int .u8 v1, AV.int .u8 v2, AV.int .u32 v3] [] (AV.bool v4) [] := by
  unfold law25_BeaconMixes at hF
  refine FCall.enter Try.func8 rfl (by simp) (by decide) (by simp) (by simp) (by simp) (by simp) (by simp) ?_
  intro c0 w0 Q h0 hQ
  refine AW.wk [(0, AV.lst false false (List.map (AV.int .u32) v0)), (1, AV.int .u8 v1), (2, AV.int .u8 v2), (3, AV.int .u32 v3)] [] 0 (by simp [-List.reduceReplicate, sOf_set, ofI_set, allU8_set]) (by simp [-List.reduceReplicate, sOf_set, ofI_set, allU8_set]) (by simp) ?_
  refine AW.seqR mixed [] [none] (by kernel_rfl) fun G484 R484 hG484 hR484 => ?_
  try simp [-List.reduceReplicate, sOf_set, ofI_set, allU8_set]
  repeat' apply And.intro
  any_goals (first | exact hG484 _ (by kernel_rfl) | refine hR484 _ _ _ ?_ | omega | (unfold maxLen; omega) | (simp [-List.reduceReplicate, sOf_set, ofI_set, allU8_set]; done) | (simp [-List.reduceReplicate, sOf_set, ofI_set, allU8_set]; omega))
  refine AW.wk [(0, AV.lst false false (List.map (AV.int .u32) v0)), (1, AV.int .u8 v1), (2, AV.int .u8 v2), (3, AV.int .u32 v3)] [] 0 (by simp [-List.reduceReplicate, sOf_set, ofI_set, allU8_set]) (by simp [-List.reduceReplicate, sOf_set, ofI_set, allU8_set]) (by simp) ?_
  refine AW.seq fun K487 hK487 => ?_
  refine AW.seqR mixed [] [none, none, none] (by kernel_rfl) fun G488 R488 hG488 hR488 => ?_
  try simp [-List.reduceReplicate, sOf_set, ofI_set, allU8_set]
  repeat' apply And.intro
  any_goals (first | exact hG488 _ (by kernel_rfl) | refine hR488 _ _ _ ?_ | omega | (unfold maxLen; omega) | (simp [-List.reduceReplicate, sOf_set, ofI_set, allU8_set]; done) | (simp [-List.reduceReplicate, sOf_set, ofI_set, allU8_set]; omega))
  refine AW.wk [(0, AV.lst false false (List.map (AV.int .u32) v0)), (1, AV.int .u8 v1), (2, AV.int .u8 v2), (3, AV.int .u32 v3), (25, AV.bool (decide (20 < (v0.length : Int))))] [] 0 (by simp [-List.reduceReplicate, sOf_set, ofI_set, allU8_set]) (by simp [-List.reduceReplicate, sOf_set, ofI_set, allU8_set]) (by simp) ?_
  by_cases h1 : 20 < (v0.length : Int)
  · replace hF := ite_t h1 hF
    have h1_ := h1
    try simp [-List.reduceReplicate] at h1_
    refine AW.condT (by decide) (by first | (simp [-List.reduceReplicate, sOf_set, ofI_set, allU8_set, h1, h1_]; done) | (simp [-List.reduceReplicate, sOf_set, ofI_set, allU8_set, h1, h1_]; omega)) ?_
    refine AW.seqR mixed [] [none, none] (by kernel_rfl) fun G489 R489 hG489 hR489 => ?_
    try simp [-List.reduceReplicate, sOf_set, ofI_set, allU8_set, h1, h1_]
    repeat' apply And.intro
    try any_goals (first | omega | (unfold maxLen; omega) | (simp [-List.reduceReplicate, sOf_set, ofI_set, allU8_set, h1, h1_]; done))
    obtain ⟨v5, h2, hF⟩ := bnd1_elim hF
    refine aCall_l (w_law25_awake k _ h2) (by simp) [] [] [] rfl .nil (by simp [-List.reduceReplicate, sOf_set, ofI_set, allU8_set, h1, h1_]) (by decide) (by simp) (by simp) (.inl rfl) (by simp) (by simp) ?_
    try simp [-List.reduceReplicate, sOf_set, ofI_set, allU8_set, h1, h1_]
    repeat' apply And.intro
    any_goals (first | exact hG489 _ (by kernel_rfl) | refine hR489 _ _ _ ?_ | omega | (unfold maxLen; omega) | (simp [-List.reduceReplicate, sOf_set, ofI_set, allU8_set, h1, h1_]; done) | (simp [-List.reduceReplicate, sOf_set, ofI_set, allU8_set, h1, h1_]; omega))
    refine AW.wk [(8, AV.bool v5)] [] 0 (by simp [-List.reduceReplicate, sOf_set, ofI_set, allU8_set, h1, h1_]) (by simp [-List.reduceReplicate, sOf_set, ofI_set, allU8_set, h1, h1_]) (by simp) ?_
    simp only [Option.some.injEq] at hF
    subst hF
    refine AW.ret (hQ _ _ _ ?_ (matchO_0 ?_)).1
    · simp [Try.f8, h1, h1_]
    · simp [h1, h1_]
  · replace hF := ite_f h1 hF
    have h1_ := h1
    try simp [-List.reduceReplicate] at h1_
    refine AW.condF (by decide) (by first | (simp [-List.reduceReplicate, sOf_set, ofI_set, allU8_set, h1, h1_]; done) | (simp [-List.reduceReplicate, sOf_set, ofI_set, allU8_set, h1, h1_]; omega)) ?_
    refine AW.skip ?_
    refine hK487 _ _ _ ?_
    refine AW.seqR mixed [] [none, none, none, none, none] (by kernel_rfl) fun G490 R490 hG490 hR490 => ?_
    try simp [-List.reduceReplicate, sOf_set, ofI_set, allU8_set, h1, h1_]
    repeat' apply And.intro
    any_goals (first | exact hG490 _ (by kernel_rfl) | refine hR490 _ _ _ ?_ | omega | (unfold maxLen; omega) | (simp [-List.reduceReplicate, sOf_set, ofI_set, allU8_set, h1, h1_]; done) | (simp [-List.reduceReplicate, sOf_set, ofI_set, allU8_set, h1, h1_]; omega))
    refine AW.wk [(0, AV.lst false false (List.map (AV.int .u32) v0)), (1, AV.int .u8 v1), (3, AV.int .u32 v3), (9, AV.int .i64 (IntKind.wrap .i64 (1 + Int.tmod (IntKind.wrap .i64 v2) 40)))] [] 0 (by simp [-List.reduceReplicate, sOf_set, ofI_set, allU8_set, h1, h1_]) (by simp [-List.reduceReplicate, sOf_set, ofI_set, allU8_set, h1, h1_]) (by simp) ?_
    refine AW.seqR mixed [] [none] (by kernel_rfl) fun G491 R491 hG491 hR491 => ?_
    try simp [-List.reduceReplicate, sOf_set, ofI_set, allU8_set, h1, h1_]
    repeat' apply And.intro
    any_goals (first | exact hG491 _ (by kernel_rfl) | refine hR491 _ _ _ ?_ | omega | (unfold maxLen; omega) | (simp [-List.reduceReplicate, sOf_set, ofI_set, allU8_set, h1, h1_]; done) | (simp [-List.reduceReplicate, sOf_set, ofI_set, allU8_set, h1, h1_]; omega))
    refine AW.wk [(0, AV.lst false false (List.map (AV.int .u32) v0)), (1, AV.int .u8 v1), (3, AV.int .u32 v3), (9, AV.int .i64 (IntKind.wrap .i64 (1 + Int.tmod (IntKind.wrap .i64 v2) 40))), (10, AV.lst true true (List.map (AV.int .i64) ([] : List Int)))] [] 0 (by simp [-List.reduceReplicate, sOf_set, ofI_set, allU8_set, h1, h1_]) (by simp [-List.reduceReplicate, sOf_set, ofI_set, allU8_set, h1, h1_]) (by simp) ?_
    refine AW.seq fun K522 hK522 => ?_
    refine AW.seqR mixed [] [none] (by kernel_rfl) fun G523 R523 hG523 hR523 => ?_
    try simp [-List.reduceReplicate, sOf_set, ofI_set, allU8_set, h1, h1_]
    repeat' apply And.intro
    any_goals (first | exact hG523 _ (by kernel_rfl) | refine hR523 _ _ _ ?_ | omega | (unfold maxLen; omega) | (simp [-List.reduceReplicate, sOf_set, ofI_set, allU8_set, h1, h1_]; done) | (simp [-List.reduceReplicate, sOf_set, ofI_set, allU8_set, h1, h1_]; omega))
    refine AW.wk [(0, AV.lst false false (List.map (AV.int .u32) v0)), (1, AV.int .u8 v1), (3, AV.int .u32 v3), (9, AV.int .i64 (IntKind.wrap .i64 (1 + Int.tmod (IntKind.wrap .i64 v2) 40))), (10, AV.lst true true (List.map (AV.int .i64) ([] : List Int))), (11, AV.int .i64 0)] [] 0 (by simp [-List.reduceReplicate, sOf_set, ofI_set, allU8_set, h1, h1_]) (by simp [-List.reduceReplicate, sOf_set, ofI_set, allU8_set, h1, h1_]) (by simp) ?_
    refine AW.block ?_
    refine AW.own' 10 1 true (by simp [-List.reduceReplicate, sOf_set, ofI_set, allU8_set, h1, h1_]) (by decide) ?_
    refine AW.loopF (α := (Int × (List Int))) (fun n (v6, v7) => law25_BeaconMixes.L1 k v0 v1 v2 v3 n v6 v7 = some v4) (fun (v6, v7) => [(0, AV.lst false false (List.map (AV.int .u32) v0)), (1, AV.int .u8 v1), (3, AV.int .u32 v3), (9, AV.int .i64 (IntKind.wrap .i64 (1 + Int.tmod (IntKind.wrap .i64 v2) 40))), (10, AV.slc 0 0 1 v7.length false), (11, AV.int .i64 v6)]) (fun (v6, v7) => [(0, .grow (List.map (AV.int .i64) v7))]) 1 k ((0, ([] : List Int))) hF (by simp [-List.reduceReplicate, sOf_set, ofI_set, allU8_set, h1, h1_]) (by simp [-List.reduceReplicate, sOf_set, ofI_set, allU8_set, h1, h1_]) (by simp) ?_
    rintro (_|n1) ⟨v6, v7⟩ hF K545 hK545
    · try dsimp only at hF
      rw [law25_BeaconMixes.L1] at hF; cases hF
    try dsimp only at hF
    rw [law25_BeaconMixes.L1] at hF
    refine AW.seq fun K547 hK547 => ?_
    refine AW.seqR mixed [] [none, none, none, none] (by kernel_rfl) fun G548 R548 hG548 hR548 => ?_
    try simp [-List.reduceReplicate, sOf_set, ofI_set, allU8_set, h1, h1_]
    repeat' apply And.intro
    any_goals (first | exact hG548 _ (by kernel_rfl) | refine hR548 _ _ _ ?_ | omega | (unfold maxLen; omega) | (simp [-List.reduceReplicate, sOf_set, ofI_set, allU8_set, h1, h1_]; done) | (simp [-List.reduceReplicate, sOf_set, ofI_set, allU8_set, h1, h1_]; omega))
    refine AW.wk [(0, AV.lst false false (List.map (AV.int .u32) v0)), (1, AV.int .u8 v1), (3, AV.int .u32 v3), (9, AV.int .i64 (IntKind.wrap .i64 (1 + Int.tmod (IntKind.wrap .i64 v2) 40))), (10, AV.slc 0 0 1 v7.length false), (11, AV.int .i64 v6), (34, AV.bool (decide (v6 < (v0.length : Int))))] [(0, .grow (List.map (AV.int .i64) v7))] 1 (by simp [-List.reduceReplicate, sOf_set, ofI_set, allU8_set, h1, h1_]) (by simp [-List.reduceReplicate, sOf_set, ofI_set, allU8_set, h1, h1_]) (by simp) ?_
    by_cases h3 : v6 < (v0.length : Int)
    · replace hF := ite_t h3 hF
      have h3_ := h3
      try simp [-List.reduceReplicate] at h3_
      refine AW.condT (by decide) (by first | (simp [-List.reduceReplicate, sOf_set, ofI_set, allU8_set, h1, h1_, h3, h3_]; done) | (simp [-List.reduceReplicate, sOf_set, ofI_set, allU8_set, h1, h1_, h3, h3_]; omega)) ?_
      refine AW.skip ?_
      refine hK547 _ _ _ ?_
      refine AW.seq fun K550 hK550 => ?_
      refine AW.block ?_
      refine AW.region mixed [] [none, none, none, none, none, none, none, none, none] (by kernel_rfl) fun G551 R551 hG551 hR551 => ?_
      obtain ⟨v8, h4, h5, h6, hF⟩ := idx_elim hF
      have h6_ := get_of h6
      try simp [-List.reduceReplicate] at h6_
      have h5_ := h5
      try simp [-List.reduceReplicate] at h5_
      obtain ⟨h7, hF⟩ := chk_elim hF
      have h7_ := h7
      try simp [-List.reduceReplicate] at h7_
      try simp [-List.reduceReplicate, sOf_set, ofI_set, allU8_set, h1, h1_, h3, h3_, h4, h5, h6, h6_, h5_, h7]
      repeat' apply And.intro
      any_goals (first | exact hG551 _ (by kernel_rfl) | refine hR551 _ _ _ ?_ | omega | (unfold maxLen; omega) | (simp [-List.reduceReplicate, sOf_set, ofI_set, allU8_set, h1, h1_, h3, h3_, h4, h5, h6, h6_, h5_, h7]; done) | (simp [-List.reduceReplicate, sOf_set, ofI_set, allU8_set, h1, h1_, h3, h3_, h4, h5, h6, h6_, h5_, h7]; omega))
      refine hK550 _ _ _ ?_
      refine AW.wk [(0, AV.lst false false (List.map (AV.int .u32) v0)), (1, AV.int .u8 v1), (3, AV.int .u32 v3), (9, AV.int .i64 (IntKind.wrap .i64 (1 + Int.tmod (IntKind.wrap .i64 v2) 40))), (10, AV.slc 1 0 1 ((v7 ++ ([IntKind.wrap .i64 v8] : List Int)).length) false), (11, AV.int .i64 v6)] [(1, .grow (List.map (AV.int .i64) (v7 ++ ([IntKind.wrap .i64 v8] : List Int))))] 2 (by simp [-List.reduceReplicate, sOf_set, ofI_set, allU8_set, h1, h1_, h3, h3_, h4, h5, h6, h6_, h5_, h7] <;> omega) (by simp [-List.reduceReplicate, sOf_set, ofI_set, allU8_set, h1, h1_, h3, h3_, h4, h5, h6, h6_, h5_, h7]) (by simp) ?_
      refine AW.region mixed [] [none, none, none] (by kernel_rfl) fun G552 R552 hG552 hR552 => ?_
      try simp [-List.reduceReplicate, sOf_set, ofI_set, allU8_set, h1, h1_, h3, h3_, h4, h5, h6, h6_, h5_, h7]
      repeat' apply And.intro
      any_goals (first | exact hG552 _ (by kernel_rfl) | refine hR552 _ _ _ ?_ | omega | (unfold maxLen; omega) | (simp [-List.reduceReplicate, sOf_set, ofI_set, allU8_set, h1, h1_, h3, h3_, h4, h5, h6, h6_, h5_, h7]; done) | (simp [-List.reduceReplicate, sOf_set, ofI_set, allU8_set, h1, h1_, h3, h3_, h4, h5, h6, h6_, h5_, h7]; omega))
      refine hK545 _ _ _ ?_
      refine Can.weak [(0, AV.lst false false (List.map (AV.int .u32) v0)), (1, AV.int .u8 v1), (3, AV.int .u32 v3), (9, AV.int .i64 (IntKind.wrap .i64 (1 + Int.tmod (IntKind.wrap .i64 v2) 40))), (10, AV.slc 1 0 1 ((v7 ++ ([IntKind.wrap .i64 v8] : List Int)).length) false), (11, AV.int .i64 (IntKind.wrap .i64 (v6 + 1)))] [(1, .grow (List.map (AV.int .i64) (v7 ++ ([IntKind.wrap .i64 v8] : List Int))))] 2 (by simp [-List.reduceReplicate, sOf_set, ofI_set, allU8_set, h1, h1_, h3, h3_, h4, h5, h6, h6_, h5_, h7] <;> omega) (by simp [-List.reduceReplicate, sOf_set, ofI_set, allU8_set, h1, h1_, h3, h3_, h4, h5, h6, h6_, h5_, h7]) (by simp) ?_
      refine Can.ren (m := 0) h0 [(0, 1)] [(0, AV.lst false false (List.map (AV.int .u32) v0)), (1, AV.int .u8 v1), (3, AV.int .u32 v3), (9, AV.int .i64 (IntKind.wrap .i64 (1 + Int.tmod (IntKind.wrap .i64 v2) 40))), (10, AV.slc 0 0 1 ((v7 ++ ([IntKind.wrap .i64 v8] : List Int)).length) false), (11, AV.int .i64 (IntKind.wrap .i64 (v6 + 1)))] [(0, .grow (List.map (AV.int .i64) (v7 ++ ([IntKind.wrap .i64 v8] : List Int))))] 1 (by decide) (by decide) (by decide) rfl (by simp [-List.reduceReplicate, sOf_set, ofI_set, allU8_set, h1, h1_, h3, h3_, h4, h5, h6, h6_, h5_, h7]) (by simp [-List.reduceReplicate, sOf_set, ofI_set, allU8_set, h1, h1_, h3, h3_, h4, h5, h6, h6_, h5_, h7]) ?_
      exact Can.next (k' := n1) ((IntKind.wrap .i64 (v6 + 1), v7 ++ ([IntKind.wrap .i64 v8] : List Int))) (by omega) hF (by simp [-List.reduceReplicate, sOf_set, ofI_set, allU8_set, h1, h1_, h3, h3_, h4, h5, h6, h6_, h5_, h7]) (by simp [-List.reduceReplicate, sOf_set, ofI_set, allU8_set, h1, h1_, h3, h3_, h4, h5, h6, h6_, h5_, h7]) (by simp)
    · replace hF := ite_f h3 hF
      have h3_ := h3
      try simp [-List.reduceReplicate] at h3_
      refine AW.condF (by decide) (by first | (simp [-List.reduceReplicate, sOf_set, ofI_set, allU8_set, h1, h1_, h3, h3_]; done) | (simp [-List.reduceReplicate, sOf_set, ofI_set, allU8_set, h1, h1_, h3, h3_]; omega)) ?_
      refine AW.exit ?_
      try simp [-List.reduceReplicate]
      refine hK522 _ _ _ ?_
      refine AW.wk [(1, AV.int .u8 v1), (3, AV.int .u32 v3), (9, AV.int .i64 (IntKind.wrap .i64 (1 + Int.tmod (IntKind.wrap .i64 v2) 40))), (10, AV.slc 0 0 1 v7.length false)] [(0, .grow (List.map (AV.int .i64) v7))] 1 (by simp [-List.reduceReplicate, sOf_set, ofI_set, allU8_set, h1, h1_, h3, h3_]) (by simp [-List.reduceReplicate, sOf_set, ofI_set, allU8_set, h1, h1_, h3, h3_]) (by simp) ?_
      refine AW.frz 0 (o := .grow (List.map (AV.int .i64) v7)) (by simp [-List.reduceReplicate, sOf_set, ofI_set, allU8_set, h1, h1_, h3, h3_]) rfl [(10, AV.lst false false (List.map (AV.int .i64) v7))] [] ⟨(.l (by simp) (by simp) (by simp) (by simp)), trivial⟩ trivial ?_
      refine AW.wk [(1, AV.int .u8 v1), (3, AV.int .u32 v3), (9, AV.int .i64 (IntKind.wrap .i64 (1 + Int.tmod (IntKind.wrap .i64 v2) 40))), (10, AV.lst false false (List.map (AV.int .i64) v7))] [] 1 (by simp [-List.reduceReplicate, sOf_set, ofI_set, allU8_set, h1, h1_, h3, h3_]) (by simp [-List.reduceReplicate, sOf_set, ofI_set, allU8_set, h1, h1_, h3, h3_]) (by simp) ?_
      refine AW.seqR mixed [] [none, none, none, none, none, none, none] (by kernel_rfl) fun G553 R553 hG553 hR553 => ?_
      obtain ⟨h8, hF⟩ := chk_elim hF
      have h8_ := h8
      try simp [-List.reduceReplicate] at h8_
      try simp [-List.reduceReplicate, sOf_set, ofI_set, allU8_set, h1, h1_, h3, h3_, h8, h8_]
      repeat' apply And.intro
      any_goals (first | exact hG553 _ (by kernel_rfl) | refine hR553 _ _ _ ?_ | omega | (unfold maxLen; omega) | (simp [-List.reduceReplicate, sOf_set, ofI_set, allU8_set, h1, h1_, h3, h3_, h8, h8_]; done) | (simp [-List.reduceReplicate, sOf_set, ofI_set, allU8_set, h1, h1_, h3, h3_, h8, h8_]; omega))
      refine AW.wk [(3, AV.int .u32 v3), (9, AV.int .i64 (IntKind.wrap .i64 (1 + Int.tmod (IntKind.wrap .i64 v2) 40))), (10, AV.lst false false (List.map (AV.int .i64) v7)), (12, AV.int .i64 (Int.tmod (IntKind.wrap .i64 v1) (IntKind.wrap .i64 ((v7.length : Int) + 1))))] [] 1 (by simp [-List.reduceReplicate, sOf_set, ofI_set, allU8_set, h1, h1_, h3, h3_, h8, h8_]) (by simp [-List.reduceReplicate, sOf_set, ofI_set, allU8_set, h1, h1_, h3, h3_, h8, h8_]) (by simp) ?_
      refine AW.seqR mixed [] [none, none, none, none] (by kernel_rfl) fun G554 R554 hG554 hR554 => ?_
      try simp [-List.reduceReplicate, sOf_set, ofI_set, allU8_set, h1, h1_, h3, h3_, h8, h8_]
      repeat' apply And.intro
      any_goals (first | exact hG554 _ (by kernel_rfl) | refine hR554 _ _ _ ?_ | omega | (unfold maxLen; omega) | (simp [-List.reduceReplicate, sOf_set, ofI_set, allU8_set, h1, h1_, h3, h3_, h8, h8_]; done) | (simp [-List.reduceReplicate, sOf_set, ofI_set, allU8_set, h1, h1_, h3, h3_, h8, h8_]; omega))
      refine AW.wk [(9, AV.int .i64 (IntKind.wrap .i64 (1 + Int.tmod (IntKind.wrap .i64 v2) 40))), (10, AV.lst false false (List.map (AV.int .i64) v7)), (12, AV.int .i64 (Int.tmod (IntKind.wrap .i64 v1) (IntKind.wrap .i64 ((v7.length : Int) + 1)))), (13, AV.int .i64 (IntKind.wrap .i64 (Int.tdiv (IntKind.wrap .i64 v3) 2)))] [] 1 (by simp [-List.reduceReplicate, sOf_set, ofI_set, allU8_set, h1, h1_, h3, h3_, h8, h8_]) (by simp [-List.reduceReplicate, sOf_set, ofI_set, allU8_set, h1, h1_, h3, h3_, h8, h8_]) (by simp) ?_
      refine AW.seqR mixed [55] [none, none, none] (by kernel_rfl) fun G555 R555 hG555 hR555 => ?_
      obtain ⟨h9, hF⟩ := chk_elim hF
      try simp [-List.reduceReplicate, sOf_set, ofI_set, allU8_set, h1, h1_, h3, h3_, h8, h8_, h9]
      repeat' apply And.intro
      any_goals (first | exact hG555 _ (by kernel_rfl) | refine hR555 _ _ _ ?_ | omega | (unfold maxLen; omega) | (simp [-List.reduceReplicate, sOf_set, ofI_set, allU8_set, h1, h1_, h3, h3_, h8, h8_, h9]; done) | (simp [-List.reduceReplicate, sOf_set, ofI_set, allU8_set, h1, h1_, h3, h3_, h8, h8_, h9]; omega))
      refine AW.wk [(9, AV.int .i64 (IntKind.wrap .i64 (1 + Int.tmod (IntKind.wrap .i64 v2) 40))), (10, AV.lst false false (List.map (AV.int .i64) v7)), (12, AV.int .i64 (Int.tmod (IntKind.wrap .i64 v1) (IntKind.wrap .i64 ((v7.length : Int) + 1)))), (13, AV.int .i64 (IntKind.wrap .i64 (Int.tdiv (IntKind.wrap .i64 v3) 2))), (14, AV.slc 1 0 1 ((List.replicate (IntKind.wrap .i64 (1 + Int.tmod (IntKind.wrap .i64 v2) 40)).toNat 0).length) true)] [(1, .cells (List.map (AV.int .i64) (List.replicate (IntKind.wrap .i64 (1 + Int.tmod (IntKind.wrap .i64 v2) 40)).toNat 0)))] 2 (by simp [-List.reduceReplicate, sOf_set, ofI_set, allU8_set, h1, h1_, h3, h3_, h8, h8_, h9]) (by simp [-List.reduceReplicate, sOf_set, ofI_set, allU8_set, h1, h1_, h3, h3_, h8, h8_, h9]) (by simp) ?_
      refine AW.seq fun K722 hK722 => ?_
      refine AW.seqR mixed [] [none] (by kernel_rfl) fun G723 R723 hG723 hR723 => ?_
      try simp [-List.reduceReplicate, sOf_set, ofI_set, allU8_set, h1, h1_, h3, h3_, h8, h8_, h9]
      repeat' apply And.intro
      any_goals (first | exact hG723 _ (by kernel_rfl) | refine hR723 _ _ _ ?_ | omega | (unfold maxLen; omega) | (simp [-List.reduceReplicate, sOf_set, ofI_set, allU8_set, h1, h1_, h3, h3_, h8, h8_, h9]; done) | (simp [-List.reduceReplicate, sOf_set, ofI_set, allU8_set, h1, h1_, h3, h3_, h8, h8_, h9]; omega))
      refine AW.wk [(9, AV.int .i64 (IntKind.wrap .i64 (1 + Int.tmod (IntKind.wrap .i64 v2) 40))), (10, AV.lst false false (List.map (AV.int .i64) v7)), (12, AV.int .i64 (Int.tmod (IntKind.wrap .i64 v1) (IntKind.wrap .i64 ((v7.length : Int) + 1)))), (13, AV.int .i64 (IntKind.wrap .i64 (Int.tdiv (IntKind.wrap .i64 v3) 2))), (14, AV.slc 1 0 1 ((List.replicate (IntKind.wrap .i64 (1 + Int.tmod (IntKind.wrap .i64 v2) 40)).toNat 0).length) true), (15, AV.int .i64 0)] [(1, .cells (List.map (AV.int .i64) (List.replicate (IntKind.wrap .i64 (1 + Int.tmod (IntKind.wrap .i64 v2) 40)).toNat 0)))] 2 (by simp [-List.reduceReplicate, sOf_set, ofI_set, allU8_set, h1, h1_, h3, h3_, h8, h8_, h9]) (by simp [-List.reduceReplicate, sOf_set, ofI_set, allU8_set, h1, h1_, h3, h3_, h8, h8_, h9]) (by simp) ?_
      refine AW.block ?_
      refine AW.rnm (m := 0) h0 [(0, 1)] [(9, AV.int .i64 (IntKind.wrap .i64 (1 + Int.tmod (IntKind.wrap .i64 v2) 40))), (10, AV.lst false false (List.map (AV.int .i64) v7)), (12, AV.int .i64 (Int.tmod (IntKind.wrap .i64 v1) (IntKind.wrap .i64 ((v7.length : Int) + 1)))), (13, AV.int .i64 (IntKind.wrap .i64 (Int.tdiv (IntKind.wrap .i64 v3) 2))), (14, AV.slc 0 0 1 ((List.replicate (IntKind.wrap .i64 (1 + Int.tmod (IntKind.wrap .i64 v2) 40)).toNat 0).length) true), (15, AV.int .i64 0)] [(0, .cells (List.map (AV.int .i64) (List.replicate (IntKind.wrap .i64 (1 + Int.tmod (IntKind.wrap .i64 v2) 40)).toNat 0)))] 1 (by decide) (by decide) (by decide) rfl (by simp [-List.reduceReplicate, sOf_set, ofI_set, allU8_set, h1, h1_, h3, h3_, h8, h8_, h9]) (by simp [-List.reduceReplicate, sOf_set, ofI_set, allU8_set, h1, h1_, h3, h3_, h8, h8_, h9]) ?_
      refine AW.loopF (α := (Int × (List Int))) (fun n (v9, v10) => law25_BeaconMixes.L2 k v1 v2 v3 v7 n v9 v10 = some v4) (fun (v9, v10) => [(9, AV.int .i64 (IntKind.wrap .i64 (1 + Int.tmod (IntKind.wrap .i64 v2) 40))), (10, AV.lst false false (List.map (AV.int .i64) v7)), (12, AV.int .i64 (Int.tmod (IntKind.wrap .i64 v1) (IntKind.wrap .i64 ((v7.length : Int) + 1)))), (13, AV.int .i64 (IntKind.wrap .i64 (Int.tdiv (IntKind.wrap .i64 v3) 2))), (14, AV.slc 0 0 1 v10.length true), (15, AV.int .i64 v9)]) (fun (v9, v10) => [(0, .cells (List.map (AV.int .i64) v10))]) 1 k ((0, (List.replicate (IntKind.wrap .i64 (1 + Int.tmod (IntKind.wrap .i64 v2) 40)).toNat 0))) hF (by simp [-List.reduceReplicate, sOf_set, ofI_set, allU8_set, h1, h1_, h3, h3_, h8, h8_, h9]) (by simp [-List.reduceReplicate, sOf_set, ofI_set, allU8_set, h1, h1_, h3, h3_, h8, h8_, h9]) (by simp) ?_
      rintro (_|n2) ⟨v9, v10⟩ hF K847 hK847
      · try dsimp only at hF
        rw [law25_BeaconMixes.L2] at hF; cases hF
      try dsimp only at hF
      rw [law25_BeaconMixes.L2] at hF
      refine AW.seq fun K849 hK849 => ?_
      refine AW.seqR mixed [] [none, none, none] (by kernel_rfl) fun G850 R850 hG850 hR850 => ?_
      try simp [-List.reduceReplicate, sOf_set, ofI_set, allU8_set, h1, h1_, h3, h3_, h8, h8_, h9]
      repeat' apply And.intro
      any_goals (first | exact hG850 _ (by kernel_rfl) | refine hR850 _ _ _ ?_ | omega | (unfold maxLen; omega) | (simp [-List.reduceReplicate, sOf_set, ofI_set, allU8_set, h1, h1_, h3, h3_, h8, h8_, h9]; done) | (simp [-List.reduceReplicate, sOf_set, ofI_set, allU8_set, h1, h1_, h3, h3_, h8, h8_, h9]; omega))
      refine AW.wk [(9, AV.int .i64 (IntKind.wrap .i64 (1 + Int.tmod (IntKind.wrap .i64 v2) 40))), (10, AV.lst false false (List.map (AV.int .i64) v7)), (12, AV.int .i64 (Int.tmod (IntKind.wrap .i64 v1) (IntKind.wrap .i64 ((v7.length : Int) + 1)))), (13, AV.int .i64 (IntKind.wrap .i64 (Int.tdiv (IntKind.wrap .i64 v3) 2))), (14, AV.slc 0 0 1 v10.length true), (15, AV.int .i64 v9), (58, AV.bool (decide (v9 < IntKind.wrap .i64 (1 + Int.tmod (IntKind.wrap .i64 v2) 40))))] [(0, .cells (List.map (AV.int .i64) v10))] 1 (by simp [-List.reduceReplicate, sOf_set, ofI_set, allU8_set, h1, h1_, h3, h3_, h8, h8_, h9]) (by simp [-List.reduceReplicate, sOf_set, ofI_set, allU8_set, h1, h1_, h3, h3_, h8, h8_, h9]) (by simp) ?_
      by_cases h10 : v9 < IntKind.wrap .i64 (1 + Int.tmod (IntKind.wrap .i64 v2) 40)
      · replace hF := ite_t h10 hF
        have h10_ := h10
        try simp [-List.reduceReplicate] at h10_
        refine AW.condT (by decide) (by first | (simp [-List.reduceReplicate, sOf_set, ofI_set, allU8_set, h1, h1_, h3, h3_, h8, h8_, h9, h10, h10_]; done) | (simp [-List.reduceReplicate, sOf_set, ofI_set, allU8_set, h1, h1_, h3, h3_, h8, h8_, h9, h10, h10_]; omega)) ?_
        refine AW.skip ?_
        refine hK849 _ _ _ ?_
        refine AW.seq fun K869 hK869 => ?_
        refine AW.block ?_
        refine AW.seqR mixed [65] [none, none, none, none, none, none, none, none, none, none, none, none, none, none, none] (by kernel_rfl) fun G870 R870 hG870 hR870 => ?_
        obtain ⟨⟨h11, h12⟩, hF⟩ := chk_elim hF
        have h11_ := h11
        try simp [-List.reduceReplicate] at h11_
        have h12_ := h12
        try simp [-List.reduceReplicate] at h12_
        obtain ⟨h13, hF⟩ := chk_elim hF
        have h13_ := h13
        try simp [-List.reduceReplicate] at h13_
        obtain ⟨h14, hF⟩ := chk_elim hF
        have h14_ := h14
        try simp [-List.reduceReplicate] at h14_
        obtain ⟨⟨h15, h16⟩, hF⟩ := chk_elim hF
        have h15_ := h15
        try simp [-List.reduceReplicate] at h15_
        have h16_ := h16
        try simp [-List.reduceReplicate] at h16_
        obtain ⟨h17, hF⟩ := chk_elim hF
        have h17_ := h17
        try simp [-List.reduceReplicate] at h17_
        try simp [-List.reduceReplicate, sOf_set, ofI_set, allU8_set, h1, h1_, h3, h3_, h8, h8_, h9, h10, h10_, h11, h12, h11_, h12_, h13, h14, h15, h16, h15_, h16_, h17]
        repeat' apply And.intro
        any_goals (first | exact hG870 _ (by kernel_rfl) | refine hR870 _ _ _ ?_ | omega | (unfold maxLen; omega) | (simp [-List.reduceReplicate, sOf_set, ofI_set, allU8_set, h1, h1_, h3, h3_, h8, h8_, h9, h10, h10_, h11, h12, h11_, h12_, h13, h14, h15, h16, h15_, h16_, h17]; done) | (simp [-List.reduceReplicate, sOf_set, ofI_set, allU8_set, h1, h1_, h3, h3_, h8, h8_, h9, h10, h10_, h11, h12, h11_, h12_, h13, h14, h15, h16, h15_, h16_, h17]; omega))
        refine AW.wk [(9, AV.int .i64 (IntKind.wrap .i64 (1 + Int.tmod (IntKind.wrap .i64 v2) 40))), (10, AV.lst false false (List.map (AV.int .i64) v7)), (12, AV.int .i64 (Int.tmod (IntKind.wrap .i64 v1) (IntKind.wrap .i64 ((v7.length : Int) + 1)))), (13, AV.int .i64 (IntKind.wrap .i64 (Int.tdiv (IntKind.wrap .i64 v3) 2))), (14, AV.slc 0 0 1 v10.length true), (15, AV.int .i64 v9), (16, AV.slc 3 0 1 ((((v7.take (Int.tmod (IntKind.wrap .i64 v1) (IntKind.wrap .i64 ((v7.length : Int) + 1))).toNat) ++ ([IntKind.wrap .i64 (IntKind.wrap .i64 (Int.tdiv (IntKind.wrap .i64 v3) 2) + v9)] : List Int)) ++ (v7.drop (Int.tmod (IntKind.wrap .i64 v1) (IntKind.wrap .i64 ((v7.length : Int) + 1))).toNat)).length) false)] [(0, .cells (List.map (AV.int .i64) v10)), (3, .grow (List.map (AV.int .i64) (((v7.take (Int.tmod (IntKind.wrap .i64 v1) (IntKind.wrap .i64 ((v7.length : Int) + 1))).toNat) ++ ([IntKind.wrap .i64 (IntKind.wrap .i64 (Int.tdiv (IntKind.wrap .i64 v3) 2) + v9)] : List Int)) ++ (v7.drop (Int.tmod (IntKind.wrap .i64 v1) (IntKind.wrap .i64 ((v7.length : Int) + 1))).toNat))))] 4 (by simp [-List.reduceReplicate, sOf_set, ofI_set, allU8_set, h1, h1_, h3, h3_, h8, h8_, h9, h10, h10_, h11, h12, h11_, h12_, h13, h14, h15, h16, h15_, h16_, h17] <;> omega) (by simp [-List.reduceReplicate, sOf_set, ofI_set, allU8_set, h1, h1_, h3, h3_, h8, h8_, h9, h10, h10_, h11, h12, h11_, h12_, h13, h14, h15, h16, h15_, h16_, h17]) (by simp) ?_
        refine AW.frz 3 (o := .grow (List.map (AV.int .i64) (((v7.take (Int.tmod (IntKind.wrap .i64 v1) (IntKind.wrap .i64 ((v7.length : Int) + 1))).toNat) ++ ([IntKind.wrap .i64 (IntKind.wrap .i64 (Int.tdiv (IntKind.wrap .i64 v3) 2) + v9)] : List Int)) ++ (v7.drop (Int.tmod (IntKind.wrap .i64 v1) (IntKind.wrap .i64 ((v7.length : Int) + 1))).toNat)))) (by simp [-List.reduceReplicate, sOf_set, ofI_set, allU8_set, h1, h1_, h3, h3_, h8, h8_, h9, h10, h10_, h11, h12, h11_, h12_, h13, h14, h15, h16, h15_, h16_, h17]) rfl [(16, AV.lst false false (List.map (AV.int .i64) (((v7.take (Int.tmod (IntKind.wrap .i64 v1) (IntKind.wrap .i64 ((v7.length : Int) + 1))).toNat) ++ ([IntKind.wrap .i64 (IntKind.wrap .i64 (Int.tdiv (IntKind.wrap .i64 v3) 2) + v9)] : List Int)) ++ (v7.drop (Int.tmod (IntKind.wrap .i64 v1) (IntKind.wrap .i64 ((v7.length : Int) + 1))).toNat))))] [] ⟨(.l (by simp) (by simp) (by simp) (by simp)), trivial⟩ trivial ?_
        refine AW.wk [(9, AV.int .i64 (IntKind.wrap .i64 (1 + Int.tmod (IntKind.wrap .i64 v2) 40))), (10, AV.lst false false (List.map (AV.int .i64) v7)), (12, AV.int .i64 (Int.tmod (IntKind.wrap .i64 v1) (IntKind.wrap .i64 ((v7.length : Int) + 1)))), (13, AV.int .i64 (IntKind.wrap .i64 (Int.tdiv (IntKind.wrap .i64 v3) 2))), (14, AV.slc 0 0 1 v10.length true), (15, AV.int .i64 v9), (16, AV.lst false false (List.map (AV.int .i64) (((v7.take (Int.tmod (IntKind.wrap .i64 v1) (IntKind.wrap .i64 ((v7.length : Int) + 1))).toNat) ++ ([IntKind.wrap .i64 (IntKind.wrap .i64 (Int.tdiv (IntKind.wrap .i64 v3) 2) + v9)] : List Int)) ++ (v7.drop (Int.tmod (IntKind.wrap .i64 v1) (IntKind.wrap .i64 ((v7.length : Int) + 1))).toNat))))] [(0, .cells (List.map (AV.int .i64) v10))] 4 (by simp [-List.reduceReplicate, sOf_set, ofI_set, allU8_set, h1, h1_, h3, h3_, h8, h8_, h9, h10, h10_, h11, h12, h11_, h12_, h13, h14, h15, h16, h15_, h16_, h17]) (by simp [-List.reduceReplicate, sOf_set, ofI_set, allU8_set, h1, h1_, h3, h3_, h8, h8_, h9, h10, h10_, h11, h12, h11_, h12_, h13, h14, h15, h16, h15_, h16_, h17]) (by simp) ?_
        refine AW.seqR mixed [] [none, none, none, none, none, none, none, none] (by kernel_rfl) fun G871 R871 hG871 hR871 => ?_
        try simp [-List.reduceReplicate, sOf_set, ofI_set, allU8_set, h1, h1_, h3, h3_, h8, h8_, h9, h10, h10_, h11, h12, h11_, h12_, h13, h14, h15, h16, h15_, h16_, h17]
        repeat' apply And.intro
        try any_goals (first | omega | (unfold maxLen; omega) | (simp [-List.reduceReplicate, sOf_set, ofI_set, allU8_set, h1, h1_, h3, h3_, h8, h8_, h9, h10, h10_, h11, h12, h11_, h12_, h13, h14, h15, h16, h15_, h16_, h17]; done))
        obtain ⟨v11, v12, h18, hF⟩ := bnd2_elim hF
        refine aCall_l (w_beacon_Mix k _ _ _ _ h18) (by simp) [] [] [] rfl (.cons (.same (by simp [-List.reduceReplicate, sOf_set, ofI_set, allU8_set, h1, h1_, h3, h3_, h8, h8_, h9, h10, h10_, h11, h12, h11_, h12_, h13, h14, h15, h16, h15_, h16_, h17])) (.cons (.same (by simp [-List.reduceReplicate, sOf_set, ofI_set, allU8_set, h1, h1_, h3, h3_, h8, h8_, h9, h10, h10_, h11, h12, h11_, h12_, h13, h14, h15, h16, h15_, h16_, h17])) .nil)) (by simp [-List.reduceReplicate, sOf_set, ofI_set, allU8_set, h1, h1_, h3, h3_, h8, h8_, h9, h10, h10_, h11, h12, h11_, h12_, h13, h14, h15, h16, h15_, h16_, h17]) (by decide) (by simp) (by simp) (.inl rfl) (by simp) (by simp) ?_
        try simp [-List.reduceReplicate, sOf_set, ofI_set, allU8_set, h1, h1_, h3, h3_, h8, h8_, h9, h10, h10_, h11, h12, h11_, h12_, h13, h14, h15, h16, h15_, h16_, h17]
        repeat' apply And.intro
        any_goals (first | exact hG871 _ (by kernel_rfl) | refine hR871 _ _ _ ?_ | omega | (unfold maxLen; omega) | (simp [-List.reduceReplicate, sOf_set, ofI_set, allU8_set, h1, h1_, h3, h3_, h8, h8_, h9, h10, h10_, h11, h12, h11_, h12_, h13, h14, h15, h16, h15_, h16_, h17]; done) | (simp [-List.reduceReplicate, sOf_set, ofI_set, allU8_set, h1, h1_, h3, h3_, h8, h8_, h9, h10, h10_, h11, h12, h11_, h12_, h13, h14, h15, h16, h15_, h16_, h17]; omega))
        refine AW.wk [(9, AV.int .i64 (IntKind.wrap .i64 (1 + Int.tmod (IntKind.wrap .i64 v2) 40))), (10, AV.lst false false (List.map (AV.int .i64) v7)), (12, AV.int .i64 (Int.tmod (IntKind.wrap .i64 v1) (IntKind.wrap .i64 ((v7.length : Int) + 1)))), (13, AV.int .i64 (IntKind.wrap .i64 (Int.tdiv (IntKind.wrap .i64 v3) 2))), (14, AV.slc 0 0 1 v10.length true), (15, AV.int .i64 v9), (17, AV.int .i64 v11), (18, AV.int .i64 v12)] [(0, .cells (List.map (AV.int .i64) v10))] 4 (by simp [-List.reduceReplicate, sOf_set, ofI_set, allU8_set, h1, h1_, h3, h3_, h8, h8_, h9, h10, h10_, h11, h12, h11_, h12_, h13, h14, h15, h16, h15_, h16_, h17]) (by simp [-List.reduceReplicate, sOf_set, ofI_set, allU8_set, h1, h1_, h3, h3_, h8, h8_, h9, h10, h10_, h11, h12, h11_, h12_, h13, h14, h15, h16, h15_, h16_, h17]) (by simp) ?_
        refine AW.seqR mixed [83] [none, none, none, none, none, none, none, none, none] (by kernel_rfl) fun G872 R872 hG872 hR872 => ?_
        obtain ⟨h19, hF⟩ := chk_elim hF
        have h19_ := h19
        try simp [-List.reduceReplicate] at h19_
        obtain ⟨h20, hF⟩ := chk_elim hF
        have h20_ := h20
        try simp [-List.reduceReplicate] at h20_
        try simp [-List.reduceReplicate, sOf_set, ofI_set, allU8_set, h1, h1_, h3, h3_, h8, h8_, h9, h10, h10_, h11, h12, h11_, h12_, h13, h14, h15, h16, h15_, h16_, h17, h19, h20]
        repeat' apply And.intro
        any_goals (first | exact hG872 _ (by kernel_rfl) | refine hR872 _ _ _ ?_ | omega | (unfold maxLen; omega) | (simp [-List.reduceReplicate, sOf_set, ofI_set, allU8_set, h1, h1_, h3, h3_, h8, h8_, h9, h10, h10_, h11, h12, h11_, h12_, h13, h14, h15, h16, h15_, h16_, h17, h19, h20]; done) | (simp [-List.reduceReplicate, sOf_set, ofI_set, allU8_set, h1, h1_, h3, h3_, h8, h8_, h9, h10, h10_, h11, h12, h11_, h12_, h13, h14, h15, h16, h15_, h16_, h17, h19, h20]; omega))
        refine AW.wk [(9, AV.int .i64 (IntKind.wrap .i64 (1 + Int.tmod (IntKind.wrap .i64 v2) 40))), (10, AV.lst false false (List.map (AV.int .i64) v7)), (12, AV.int .i64 (Int.tmod (IntKind.wrap .i64 v1) (IntKind.wrap .i64 ((v7.length : Int) + 1)))), (13, AV.int .i64 (IntKind.wrap .i64 (Int.tdiv (IntKind.wrap .i64 v3) 2))), (14, AV.slc 0 0 1 v10.length true), (15, AV.int .i64 v9), (17, AV.int .i64 v11), (18, AV.int .i64 v12), (19, AV.slc 5 0 1 ((v7 ++ ([IntKind.wrap .i64 (IntKind.wrap .i64 (Int.tdiv (IntKind.wrap .i64 v3) 2) + v9)] : List Int)).length) false)] [(0, .cells (List.map (AV.int .i64) v10)), (5, .grow (List.map (AV.int .i64) (v7 ++ ([IntKind.wrap .i64 (IntKind.wrap .i64 (Int.tdiv (IntKind.wrap .i64 v3) 2) + v9)] : List Int))))] 6 (by simp [-List.reduceReplicate, sOf_set, ofI_set, allU8_set, h1, h1_, h3, h3_, h8, h8_, h9, h10, h10_, h11, h12, h11_, h12_, h13, h14, h15, h16, h15_, h16_, h17, h19, h20] <;> omega) (by simp [-List.reduceReplicate, sOf_set, ofI_set, allU8_set, h1, h1_, h3, h3_, h8, h8_, h9, h10, h10_, h11, h12, h11_, h12_, h13, h14, h15, h16, h15_, h16_, h17, h19, h20]) (by simp) ?_
        refine AW.frz 5 (o := .grow (List.map (AV.int .i64) (v7 ++ ([IntKind.wrap .i64 (IntKind.wrap .i64 (Int.tdiv (IntKind.wrap .i64 v3) 2) + v9)] : List Int)))) (by simp [-List.reduceReplicate, sOf_set, ofI_set, allU8_set, h1, h1_, h3, h3_, h8, h8_, h9, h10, h10_, h11, h12, h11_, h12_, h13, h14, h15, h16, h15_, h16_, h17, h19, h20]) rfl [(19, AV.lst false false (List.map (AV.int .i64) (v7 ++ ([IntKind.wrap .i64 (IntKind.wrap .i64 (Int.tdiv (IntKind.wrap .i64 v3) 2) + v9)] : List Int))))] [] ⟨(.l (by simp) (by simp) (by simp) (by simp)), trivial⟩ trivial ?_
        refine AW.wk [(9, AV.int .i64 (IntKind.wrap .i64 (1 + Int.tmod (IntKind.wrap .i64 v2) 40))), (10, AV.lst false false (List.map (AV.int .i64) v7)), (12, AV.int .i64 (Int.tmod (IntKind.wrap .i64 v1) (IntKind.wrap .i64 ((v7.length : Int) + 1)))), (13, AV.int .i64 (IntKind.wrap .i64 (Int.tdiv (IntKind.wrap .i64 v3) 2))), (14, AV.slc 0 0 1 v10.length true), (15, AV.int .i64 v9), (17, AV.int .i64 v11), (18, AV.int .i64 v12), (19, AV.lst false false (List.map (AV.int .i64) (v7 ++ ([IntKind.wrap .i64 (IntKind.wrap .i64 (Int.tdiv (IntKind.wrap .i64 v3) 2) + v9)] : List Int))))] [(0, .cells (List.map (AV.int .i64) v10))] 6 (by simp [-List.reduceReplicate, sOf_set, ofI_set, allU8_set, h1, h1_, h3, h3_, h8, h8_, h9, h10, h10_, h11, h12, h11_, h12_, h13, h14, h15, h16, h15_, h16_, h17, h19, h20]) (by simp [-List.reduceReplicate, sOf_set, ofI_set, allU8_set, h1, h1_, h3, h3_, h8, h8_, h9, h10, h10_, h11, h12, h11_, h12_, h13, h14, h15, h16, h15_, h16_, h17, h19, h20]) (by simp) ?_
        refine AW.seqR mixed [] [none, none, none, none, none, none, none, none] (by kernel_rfl) fun G873 R873 hG873 hR873 => ?_
        try simp [-List.reduceReplicate, sOf_set, ofI_set, allU8_set, h1, h1_, h3, h3_, h8, h8_, h9, h10, h10_, h11, h12, h11_, h12_, h13, h14, h15, h16, h15_, h16_, h17, h19, h20]
        repeat' apply And.intro
        try any_goals (first | omega | (unfold maxLen; omega) | (simp [-List.reduceReplicate, sOf_set, ofI_set, allU8_set, h1, h1_, h3, h3_, h8, h8_, h9, h10, h10_, h11, h12, h11_, h12_, h13, h14, h15, h16, h15_, h16_, h17, h19, h20]; done))
        obtain ⟨v13, v14, h21, hF⟩ := bnd2_elim hF
        refine aCall_l (w_beacon_Mix k _ _ _ _ h21) (by simp) [] [] [] rfl (.cons (.same (by simp [-List.reduceReplicate, sOf_set, ofI_set, allU8_set, h1, h1_, h3, h3_, h8, h8_, h9, h10, h10_, h11, h12, h11_, h12_, h13, h14, h15, h16, h15_, h16_, h17, h19, h20])) (.cons (.same (by simp [-List.reduceReplicate, sOf_set, ofI_set, allU8_set, h1, h1_, h3, h3_, h8, h8_, h9, h10, h10_, h11, h12, h11_, h12_, h13, h14, h15, h16, h15_, h16_, h17, h19, h20])) .nil)) (by simp [-List.reduceReplicate, sOf_set, ofI_set, allU8_set, h1, h1_, h3, h3_, h8, h8_, h9, h10, h10_, h11, h12, h11_, h12_, h13, h14, h15, h16, h15_, h16_, h17, h19, h20]) (by decide) (by simp) (by simp) (.inl rfl) (by simp) (by simp) ?_
        try simp [-List.reduceReplicate, sOf_set, ofI_set, allU8_set, h1, h1_, h3, h3_, h8, h8_, h9, h10, h10_, h11, h12, h11_, h12_, h13, h14, h15, h16, h15_, h16_, h17, h19, h20]
        repeat' apply And.intro
        any_goals (first | exact hG873 _ (by kernel_rfl) | refine hR873 _ _ _ ?_ | omega | (unfold maxLen; omega) | (simp [-List.reduceReplicate, sOf_set, ofI_set, allU8_set, h1, h1_, h3, h3_, h8, h8_, h9, h10, h10_, h11, h12, h11_, h12_, h13, h14, h15, h16, h15_, h16_, h17, h19, h20]; done) | (simp [-List.reduceReplicate, sOf_set, ofI_set, allU8_set, h1, h1_, h3, h3_, h8, h8_, h9, h10, h10_, h11, h12, h11_, h12_, h13, h14, h15, h16, h15_, h16_, h17, h19, h20]; omega))
        refine AW.wk [(9, AV.int .i64 (IntKind.wrap .i64 (1 + Int.tmod (IntKind.wrap .i64 v2) 40))), (10, AV.lst false false (List.map (AV.int .i64) v7)), (12, AV.int .i64 (Int.tmod (IntKind.wrap .i64 v1) (IntKind.wrap .i64 ((v7.length : Int) + 1)))), (13, AV.int .i64 (IntKind.wrap .i64 (Int.tdiv (IntKind.wrap .i64 v3) 2))), (14, AV.slc 0 0 1 v10.length true), (15, AV.int .i64 v9), (17, AV.int .i64 v11), (18, AV.int .i64 v12), (20, AV.int .i64 v13), (21, AV.int .i64 v14)] [(0, .cells (List.map (AV.int .i64) v10))] 6 (by simp [-List.reduceReplicate, sOf_set, ofI_set, allU8_set, h1, h1_, h3, h3_, h8, h8_, h9, h10, h10_, h11, h12, h11_, h12_, h13, h14, h15, h16, h15_, h16_, h17, h19, h20]) (by simp [-List.reduceReplicate, sOf_set, ofI_set, allU8_set, h1, h1_, h3, h3_, h8, h8_, h9, h10, h10_, h11, h12, h11_, h12_, h13, h14, h15, h16, h15_, h16_, h17, h19, h20]) (by simp) ?_
        refine AW.seq fun K880 hK880 => ?_
        refine AW.seqR mixed [] [none, none, none, some (97, false), some (97, false), none, none, some (101, false), some (101, false), none, none, some (105, false), some (105, false), some (105, false), none, none, some (110, false), some (110, false), some (110, false), none] (by kernel_rfl) fun G881 R881 hG881 hR881 => ?_
        by_cases h22 : v12 ≠ 0
        · replace hF := ite_t h22 hF
          have h22_ := eqb_f h22
          have h22__ := neb_t h22
          try simp [-List.reduceReplicate, sOf_set, ofI_set, allU8_set, h1, h1_, h3, h3_, h8, h8_, h9, h10, h10_, h11, h12, h11_, h12_, h13, h14, h15, h16, h15_, h16_, h17, h19, h20, h22, h22_, h22__]
          repeat' apply And.intro
          any_goals (first | exact hG881 _ (by kernel_rfl) | refine hR881 _ _ _ ?_ | omega | (unfold maxLen; omega) | (simp [-List.reduceReplicate, sOf_set, ofI_set, allU8_set, h1, h1_, h3, h3_, h8, h8_, h9, h10, h10_, h11, h12, h11_, h12_, h13, h14, h15, h16, h15_, h16_, h17, h19, h20, h22, h22_, h22__]; done) | (simp [-List.reduceReplicate, sOf_set, ofI_set, allU8_set, h1, h1_, h3, h3_, h8, h8_, h9, h10, h10_, h11, h12, h11_, h12_, h13, h14, h15, h16, h15_, h16_, h17, h19, h20, h22, h22_, h22__]; omega))
          refine AW.wk [(9, AV.int .i64 (IntKind.wrap .i64 (1 + Int.tmod (IntKind.wrap .i64 v2) 40))), (10, AV.lst false false (List.map (AV.int .i64) v7)), (12, AV.int .i64 (Int.tmod (IntKind.wrap .i64 v1) (IntKind.wrap .i64 ((v7.length : Int) + 1)))), (13, AV.int .i64 (IntKind.wrap .i64 (Int.tdiv (IntKind.wrap .i64 v3) 2))), (14, AV.slc 0 0 1 v10.length true), (15, AV.int .i64 v9), (17, AV.int .i64 v11), (114, AV.bool true)] [(0, .cells (List.map (AV.int .i64) v10))] 6 (by simp [-List.reduceReplicate, sOf_set, ofI_set, allU8_set, h1, h1_, h3, h3_, h8, h8_, h9, h10, h10_, h11, h12, h11_, h12_, h13, h14, h15, h16, h15_, h16_, h17, h19, h20, h22, h22_, h22__]) (by simp [-List.reduceReplicate, sOf_set, ofI_set, allU8_set, h1, h1_, h3, h3_, h8, h8_, h9, h10, h10_, h11, h12, h11_, h12_, h13, h14, h15, h16, h15_, h16_, h17, h19, h20, h22, h22_, h22__]) (by simp) ?_
          refine AW.condT (by decide) (by simp [-List.reduceReplicate, sOf_set, ofI_set, allU8_set, h1, h1_, h3, h3_, h8, h8_, h9, h10, h10_, h11, h12, h11_, h12_, h13, h14, h15, h16, h15_, h16_, h17, h19, h20, h22, h22_, h22__]) ?_
          refine AW.seqR mixed [] [none] (by kernel_rfl) fun G882 R882 hG882 hR882 => ?_
          try simp [-List.reduceReplicate, sOf_set, ofI_set, allU8_set, h1, h1_, h3, h3_, h8, h8_, h9, h10, h10_, h11, h12, h11_, h12_, h13, h14, h15, h16, h15_, h16_, h17, h19, h20, h22, h22_, h22__]
          repeat' apply And.intro
          any_goals (first | exact hG882 _ (by kernel_rfl) | refine hR882 _ _ _ ?_ | omega | (unfold maxLen; omega) | (simp [-List.reduceReplicate, sOf_set, ofI_set, allU8_set, h1, h1_, h3, h3_, h8, h8_, h9, h10, h10_, h11, h12, h11_, h12_, h13, h14, h15, h16, h15_, h16_, h17, h19, h20, h22, h22_, h22__]; done) | (simp [-List.reduceReplicate, sOf_set, ofI_set, allU8_set, h1, h1_, h3, h3_, h8, h8_, h9, h10, h10_, h11, h12, h11_, h12_, h13, h14, h15, h16, h15_, h16_, h17, h19, h20, h22, h22_, h22__]; omega))
          refine AW.wk [(8, AV.bool false)] [] 6 (by simp [-List.reduceReplicate, sOf_set, ofI_set, allU8_set, h1, h1_, h3, h3_, h8, h8_, h9, h10, h10_, h11, h12, h11_, h12_, h13, h14, h15, h16, h15_, h16_, h17, h19, h20, h22, h22_, h22__]) (by simp [-List.reduceReplicate, sOf_set, ofI_set, allU8_set, h1, h1_, h3, h3_, h8, h8_, h9, h10, h10_, h11, h12, h11_, h12_, h13, h14, h15, h16, h15_, h16_, h17, h19, h20, h22, h22_, h22__]) (by simp) ?_
          simp only [Option.some.injEq] at hF
          subst hF
          refine AW.ret (hQ _ _ _ ?_ (matchO_0 ?_)).1
          · simp [Try.f8, h1, h1_, h3, h3_, h8, h8_, h9, h10, h10_, h11, h12, h11_, h12_, h13, h14, h15, h16, h15_, h16_, h17, h19, h20, h22, h22_, h22__]
          · simp [h1, h1_, h3, h3_, h8, h8_, h9, h10, h10_, h11, h12, h11_, h12_, h13, h14, h15, h16, h15_, h16_, h17, h19, h20, h22, h22_, h22__]
        · replace hF := ite_f h22 hF
          have h22q : v12 = 0 := Classical.not_not.1 h22
          have h22_ := eqb_t h22q
          have h22__ := neb_f h22q
          by_cases h23 : v14 ≠ 0
          · replace hF := ite_t h23 hF
            have h23_ := eqb_f h23
            have h23__ := neb_t h23
            try simp [-List.reduceReplicate, sOf_set, ofI_set, allU8_set, h1, h1_, h3, h3_, h8, h8_, h9, h10, h10_, h11, h12, h11_, h12_, h13, h14, h15, h16, h15_, h16_, h17, h19, h20, h22_, h22__, h22q, h23, h23_, h23__]
            repeat' apply And.intro
            any_goals (first | exact hG881 _ (by kernel_rfl) | refine hR881 _ _ _ ?_ | omega | (unfold maxLen; omega) | (simp [-List.reduceReplicate, sOf_set, ofI_set, allU8_set, h1, h1_, h3, h3_, h8, h8_, h9, h10, h10_, h11, h12, h11_, h12_, h13, h14, h15, h16, h15_, h16_, h17, h19, h20, h22_, h22__, h22q, h23, h23_, h23__]; done) | (simp [-List.reduceReplicate, sOf_set, ofI_set, allU8_set, h1, h1_, h3, h3_, h8, h8_, h9, h10, h10_, h11, h12, h11_, h12_, h13, h14, h15, h16, h15_, h16_, h17, h19, h20, h22_, h22__, h22q, h23, h23_, h23__]; omega))
            refine AW.wk [(9, AV.int .i64 (IntKind.wrap .i64 (1 + Int.tmod (IntKind.wrap .i64 v2) 40))), (10, AV.lst false false (List.map (AV.int .i64) v7)), (12, AV.int .i64 (Int.tmod (IntKind.wrap .i64 v1) (IntKind.wrap .i64 ((v7.length : Int) + 1)))), (13, AV.int .i64 (IntKind.wrap .i64 (Int.tdiv (IntKind.wrap .i64 v3) 2))), (14, AV.slc 0 0 1 v10.length true), (15, AV.int .i64 v9), (17, AV.int .i64 v11), (114, AV.bool true)] [(0, .cells (List.map (AV.int .i64) v10))] 6 (by simp [-List.reduceReplicate, sOf_set, ofI_set, allU8_set, h1, h1_, h3, h3_, h8, h8_, h9, h10, h10_, h11, h12, h11_, h12_, h13, h14, h15, h16, h15_, h16_, h17, h19, h20, h22_, h22__, h22q, h23, h23_, h23__]) (by simp [-List.reduceReplicate, sOf_set, ofI_set, allU8_set, h1, h1_, h3, h3_, h8, h8_, h9, h10, h10_, h11, h12, h11_, h12_, h13, h14, h15, h16, h15_, h16_, h17, h19, h20, h22_, h22__, h22q, h23, h23_, h23__]) (by simp) ?_
            refine AW.condT (by decide) (by simp [-List.reduceReplicate, sOf_set, ofI_set, allU8_set, h1, h1_, h3, h3_, h8, h8_, h9, h10, h10_, h11, h12, h11_, h12_, h13, h14, h15, h16, h15_, h16_, h17, h19, h20, h22_, h22__, h22q, h23, h23_, h23__]) ?_
            refine AW.seqR mixed [] [none] (by kernel_rfl) fun G883 R883 hG883 hR883 => ?_
            try simp [-List.reduceReplicate, sOf_set, ofI_set, allU8_set, h1, h1_, h3, h3_, h8, h8_, h9, h10, h10_, h11, h12, h11_, h12_, h13, h14, h15, h16, h15_, h16_, h17, h19, h20, h22_, h22__, h22q, h23, h23_, h23__]
            repeat' apply And.intro
            any_goals (first | exact hG883 _ (by kernel_rfl) | refine hR883 _ _ _ ?_ | omega | (unfold maxLen; omega) | (simp [-List.reduceReplicate, sOf_set, ofI_set, allU8_set, h1, h1_, h3, h3_, h8, h8_, h9, h10, h10_, h11, h12, h11_, h12_, h13, h14, h15, h16, h15_, h16_, h17, h19, h20, h22_, h22__, h22q, h23, h23_, h23__]; done) | (simp [-List.reduceReplicate, sOf_set, ofI_set, allU8_set, h1, h1_, h3, h3_, h8, h8_, h9, h10, h10_, h11, h12, h11_, h12_, h13, h14, h15, h16, h15_, h16_, h17, h19, h20, h22_, h22__, h22q, h23, h23_, h23__]; omega))
            refine AW.wk [(8, AV.bool false)] [] 6 (by simp [-List.reduceReplicate, sOf_set, ofI_set, allU8_set, h1, h1_, h3, h3_, h8, h8_, h9, h10, h10_, h11, h12, h11_, h12_, h13, h14, h15, h16, h15_, h16_, h17, h19, h20, h22_, h22__, h22q, h23, h23_, h23__]) (by simp [-List.reduceReplicate, sOf_set, ofI_set, allU8_set, h1, h1_, h3, h3_, h8, h8_, h9, h10, h10_, h11, h12, h11_, h12_, h13, h14, h15, h16, h15_, h16_, h17, h19, h20, h22_, h22__, h22q, h23, h23_, h23__]) (by simp) ?_
            simp only [Option.some.injEq] at hF
            subst hF
            refine AW.ret (hQ _ _ _ ?_ (matchO_0 ?_)).1
            · simp [Try.f8, h1, h1_, h3, h3_, h8, h8_, h9, h10, h10_, h11, h12, h11_, h12_, h13, h14, h15, h16, h15_, h16_, h17, h19, h20, h22_, h22__, h22q, h23, h23_, h23__]
            · simp [h1, h1_, h3, h3_, h8, h8_, h9, h10, h10_, h11, h12, h11_, h12_, h13, h14, h15, h16, h15_, h16_, h17, h19, h20, h22_, h22__, h22q, h23, h23_, h23__]
          · replace hF := ite_f h23 hF
            have h23q : v14 = 0 := Classical.not_not.1 h23
            have h23_ := eqb_t h23q
            have h23__ := neb_f h23q
            by_cases h24 : v11 < 0
            · replace hF := ite_t h24 hF
              have h24_ := h24
              try simp [-List.reduceReplicate] at h24_
              try simp [-List.reduceReplicate, sOf_set, ofI_set, allU8_set, h1, h1_, h3, h3_, h8, h8_, h9, h10, h10_, h11, h12, h11_, h12_, h13, h14, h15, h16, h15_, h16_, h17, h19, h20, h22_, h22__, h22q, h23_, h23__, h23q, h24, h24_]
              repeat' apply And.intro
              any_goals (first | exact hG881 _ (by kernel_rfl) | refine hR881 _ _ _ ?_ | omega | (unfold maxLen; omega) | (simp [-List.reduceReplicate, sOf_set, ofI_set, allU8_set, h1, h1_, h3, h3_, h8, h8_, h9, h10, h10_, h11, h12, h11_, h12_, h13, h14, h15, h16, h15_, h16_, h17, h19, h20, h22_, h22__, h22q, h23_, h23__, h23q, h24, h24_]; done) | (simp [-List.reduceReplicate, sOf_set, ofI_set, allU8_set, h1, h1_, h3, h3_, h8, h8_, h9, h10, h10_, h11, h12, h11_, h12_, h13, h14, h15, h16, h15_, h16_, h17, h19, h20, h22_, h22__, h22q, h23_, h23__, h23q, h24, h24_]; omega))
              refine AW.wk [(9, AV.int .i64 (IntKind.wrap .i64 (1 + Int.tmod (IntKind.wrap .i64 v2) 40))), (10, AV.lst false false (List.map (AV.int .i64) v7)), (12, AV.int .i64 (Int.tmod (IntKind.wrap .i64 v1) (IntKind.wrap .i64 ((v7.length : Int) + 1)))), (13, AV.int .i64 (IntKind.wrap .i64 (Int.tdiv (IntKind.wrap .i64 v3) 2))), (14, AV.slc 0 0 1 v10.length true), (15, AV.int .i64 v9), (17, AV.int .i64 v11), (114, AV.bool true)] [(0, .cells (List.map (AV.int .i64) v10))] 6 (by simp [-List.reduceReplicate, sOf_set, ofI_set, allU8_set, h1, h1_, h3, h3_, h8, h8_, h9, h10, h10_, h11, h12, h11_, h12_, h13, h14, h15, h16, h15_, h16_, h17, h19, h20, h22_, h22__, h22q, h23_, h23__, h23q, h24, h24_]) (by simp [-List.reduceReplicate, sOf_set, ofI_set, allU8_set, h1, h1_, h3, h3_, h8, h8_, h9, h10, h10_, h11, h12, h11_, h12_, h13, h14, h15, h16, h15_, h16_, h17, h19, h20, h22_, h22__, h22q, h23_, h23__, h23q, h24, h24_]) (by simp) ?_
              refine AW.condT (by decide) (by simp [-List.reduceReplicate, sOf_set, ofI_set, allU8_set, h1, h1_, h3, h3_, h8, h8_, h9, h10, h10_, h11, h12, h11_, h12_, h13, h14, h15, h16, h15_, h16_, h17, h19, h20, h22_, h22__, h22q, h23_, h23__, h23q, h24, h24_]) ?_
              refine AW.seqR mixed [] [none] (by kernel_rfl) fun G884 R884 hG884 hR884 => ?_
              try simp [-List.reduceReplicate, sOf_set, ofI_set, allU8_set, h1, h1_, h3, h3_, h8, h8_, h9, h10, h10_, h11, h12, h11_, h12_, h13, h14, h15, h16, h15_, h16_, h17, h19, h20, h22_, h22__, h22q, h23_, h23__, h23q, h24, h24_]
              repeat' apply And.intro
              any_goals (first | exact hG884 _ (by kernel_rfl) | refine hR884 _ _ _ ?_ | omega | (unfold maxLen; omega) | (simp [-List.reduceReplicate, sOf_set, ofI_set, allU8_set, h1, h1_, h3, h3_, h8, h8_, h9, h10, h10_, h11, h12, h11_, h12_, h13, h14, h15, h16, h15_, h16_, h17, h19, h20, h22_, h22__, h22q, h23_, h23__, h23q, h24, h24_]; done) | (simp [-List.reduceReplicate, sOf_set, ofI_set, allU8_set, h1, h1_, h3, h3_, h8, h8_, h9, h10, h10_, h11, h12, h11_, h12_, h13, h14, h15, h16, h15_, h16_, h17, h19, h20, h22_, h22__, h22q, h23_, h23__, h23q, h24, h24_]; omega))
              refine AW.wk [(8, AV.bool false)] [] 6 (by simp [-List.reduceReplicate, sOf_set, ofI_set, allU8_set, h1, h1_, h3, h3_, h8, h8_, h9, h10, h10_, h11, h12, h11_, h12_, h13, h14, h15, h16, h15_, h16_, h17, h19, h20, h22_, h22__, h22q, h23_, h23__, h23q, h24, h24_]) (by simp [-List.reduceReplicate, sOf_set, ofI_set, allU8_set, h1, h1_, h3, h3_, h8, h8_, h9, h10, h10_, h11, h12, h11_, h12_, h13, h14, h15, h16, h15_, h16_, h17, h19, h20, h22_, h22__, h22q, h23_, h23__, h23q, h24, h24_]) (by simp) ?_
              simp only [Option.some.injEq] at hF
              subst hF
              refine AW.ret (hQ _ _ _ ?_ (matchO_0 ?_)).1
              · simp [Try.f8, h1, h1_, h3, h3_, h8, h8_, h9, h10, h10_, h11, h12, h11_, h12_, h13, h14, h15, h16, h15_, h16_, h17, h19, h20, h22_, h22__, h22q, h23_, h23__, h23q, h24, h24_]
              · simp [h1, h1_, h3, h3_, h8, h8_, h9, h10, h10_, h11, h12, h11_, h12_, h13, h14, h15, h16, h15_, h16_, h17, h19, h20, h22_, h22__, h22q, h23_, h23__, h23q, h24, h24_]
            · replace hF := ite_f h24 hF
              have h24_ := h24
              try simp [-List.reduceReplicate] at h24_
              by_cases h25 : IntKind.wrap .i64 (1 + Int.tmod (IntKind.wrap .i64 v2) 40) ≤ v11
              · replace hF := ite_t h25 hF
                have h25_ := h25
                try simp [-List.reduceReplicate] at h25_
                try simp [-List.reduceReplicate, sOf_set, ofI_set, allU8_set, h1, h1_, h3, h3_, h8, h8_, h9, h10, h10_, h11, h12, h11_, h12_, h13, h14, h15, h16, h15_, h16_, h17, h19, h20, h22_, h22__, h22q, h23_, h23__, h23q, h24, h24_, h25, h25_]
                repeat' apply And.intro
                any_goals (first | exact hG881 _ (by kernel_rfl) | refine hR881 _ _ _ ?_ | omega | (unfold maxLen; omega) | (simp [-List.reduceReplicate, sOf_set, ofI_set, allU8_set, h1, h1_, h3, h3_, h8, h8_, h9, h10, h10_, h11, h12, h11_, h12_, h13, h14, h15, h16, h15_, h16_, h17, h19, h20, h22_, h22__, h22q, h23_, h23__, h23q, h24, h24_, h25, h25_]; done) | (simp [-List.reduceReplicate, sOf_set, ofI_set, allU8_set, h1, h1_, h3, h3_, h8, h8_, h9, h10, h10_, h11, h12, h11_, h12_, h13, h14, h15, h16, h15_, h16_, h17, h19, h20, h22_, h22__, h22q, h23_, h23__, h23q, h24, h24_, h25, h25_]; omega))
                refine AW.wk [(9, AV.int .i64 (IntKind.wrap .i64 (1 + Int.tmod (IntKind.wrap .i64 v2) 40))), (10, AV.lst false false (List.map (AV.int .i64) v7)), (12, AV.int .i64 (Int.tmod (IntKind.wrap .i64 v1) (IntKind.wrap .i64 ((v7.length : Int) + 1)))), (13, AV.int .i64 (IntKind.wrap .i64 (Int.tdiv (IntKind.wrap .i64 v3) 2))), (14, AV.slc 0 0 1 v10.length true), (15, AV.int .i64 v9), (17, AV.int .i64 v11), (114, AV.bool true)] [(0, .cells (List.map (AV.int .i64) v10))] 6 (by simp [-List.reduceReplicate, sOf_set, ofI_set, allU8_set, h1, h1_, h3, h3_, h8, h8_, h9, h10, h10_, h11, h12, h11_, h12_, h13, h14, h15, h16, h15_, h16_, h17, h19, h20, h22_, h22__, h22q, h23_, h23__, h23q, h24, h24_, h25, h25_]) (by simp [-List.reduceReplicate, sOf_set, ofI_set, allU8_set, h1, h1_, h3, h3_, h8, h8_, h9, h10, h10_, h11, h12, h11_, h12_, h13, h14, h15, h16, h15_, h16_, h17, h19, h20, h22_, h22__, h22q, h23_, h23__, h23q, h24, h24_, h25, h25_]) (by simp) ?_
                refine AW.condT (by decide) (by simp [-List.reduceReplicate, sOf_set, ofI_set, allU8_set, h1, h1_, h3, h3_, h8, h8_, h9, h10, h10_, h11, h12, h11_, h12_, h13, h14, h15, h16, h15_, h16_, h17, h19, h20, h22_, h22__, h22q, h23_, h23__, h23q, h24, h24_, h25, h25_]) ?_
                refine AW.seqR mixed [] [none] (by kernel_rfl) fun G885 R885 hG885 hR885 => ?_
                try simp [-List.reduceReplicate, sOf_set, ofI_set, allU8_set, h1, h1_, h3, h3_, h8, h8_, h9, h10, h10_, h11, h12, h11_, h12_, h13, h14, h15, h16, h15_, h16_, h17, h19, h20, h22_, h22__, h22q, h23_, h23__, h23q, h24, h24_, h25, h25_]
                repeat' apply And.intro
                any_goals (first | exact hG885 _ (by kernel_rfl) | refine hR885 _ _ _ ?_ | omega | (unfold maxLen; omega) | (simp [-List.reduceReplicate, sOf_set, ofI_set, allU8_set, h1, h1_, h3, h3_, h8, h8_, h9, h10, h10_, h11, h12, h11_, h12_, h13, h14, h15, h16, h15_, h16_, h17, h19, h20, h22_, h22__, h22q, h23_, h23__, h23q, h24, h24_, h25, h25_]; done) | (simp [-List.reduceReplicate, sOf_set, ofI_set, allU8_set, h1, h1_, h3, h3_, h8, h8_, h9, h10, h10_, h11, h12, h11_, h12_, h13, h14, h15, h16, h15_, h16_, h17, h19, h20, h22_, h22__, h22q, h23_, h23__, h23q, h24, h24_, h25, h25_]; omega))
                refine AW.wk [(8, AV.bool false)] [] 6 (by simp [-List.reduceReplicate, sOf_set, ofI_set, allU8_set, h1, h1_, h3, h3_, h8, h8_, h9, h10, h10_, h11, h12, h11_, h12_, h13, h14, h15, h16, h15_, h16_, h17, h19, h20, h22_, h22__, h22q, h23_, h23__, h23q, h24, h24_, h25, h25_]) (by simp [-List.reduceReplicate, sOf_set, ofI_set, allU8_set, h1, h1_, h3, h3_, h8, h8_, h9, h10, h10_, h11, h12, h11_, h12_, h13, h14, h15, h16, h15_, h16_, h17, h19, h20, h22_, h22__, h22q, h23_, h23__, h23q, h24, h24_, h25, h25_]) (by simp) ?_
                simp only [Option.some.injEq] at hF
                subst hF
                refine AW.ret (hQ _ _ _ ?_ (matchO_0 ?_)).1
                · simp [Try.f8, h1, h1_, h3, h3_, h8, h8_, h9, h10, h10_, h11, h12, h11_, h12_, h13, h14, h15, h16, h15_, h16_, h17, h19, h20, h22_, h22__, h22q, h23_, h23__, h23q, h24, h24_, h25, h25_]
                · simp [h1, h1_, h3, h3_, h8, h8_, h9, h10, h10_, h11, h12, h11_, h12_, h13, h14, h15, h16, h15_, h16_, h17, h19, h20, h22_, h22__, h22q, h23_, h23__, h23q, h24, h24_, h25, h25_]
              · replace hF := ite_f h25 hF
                have h25_ := h25
                try simp [-List.reduceReplicate] at h25_
                try simp [-List.reduceReplicate, sOf_set, ofI_set, allU8_set, h1, h1_, h3, h3_, h8, h8_, h9, h10, h10_, h11, h12, h11_, h12_, h13, h14, h15, h16, h15_, h16_, h17, h19, h20, h22_, h22__, h22q, h23_, h23__, h23q, h24, h24_, h25, h25_]
                repeat' apply And.intro
                any_goals (first | exact hG881 _ (by kernel_rfl) | refine hR881 _ _ _ ?_ | omega | (unfold maxLen; omega) | (simp [-List.reduceReplicate, sOf_set, ofI_set, allU8_set, h1, h1_, h3, h3_, h8, h8_, h9, h10, h10_, h11, h12, h11_, h12_, h13, h14, h15, h16, h15_, h16_, h17, h19, h20, h22_, h22__, h22q, h23_, h23__, h23q, h24, h24_, h25, h25_]; done) | (simp [-List.reduceReplicate, sOf_set, ofI_set, allU8_set, h1, h1_, h3, h3_, h8, h8_, h9, h10, h10_, h11, h12, h11_, h12_, h13, h14, h15, h16, h15_, h16_, h17, h19, h20, h22_, h22__, h22q, h23_, h23__, h23q, h24, h24_, h25, h25_]; omega))
                refine AW.wk [(9, AV.int .i64 (IntKind.wrap .i64 (1 + Int.tmod (IntKind.wrap .i64 v2) 40))), (10, AV.lst false false (List.map (AV.int .i64) v7)), (12, AV.int .i64 (Int.tmod (IntKind.wrap .i64 v1) (IntKind.wrap .i64 ((v7.length : Int) + 1)))), (13, AV.int .i64 (IntKind.wrap .i64 (Int.tdiv (IntKind.wrap .i64 v3) 2))), (14, AV.slc 0 0 1 v10.length true), (15, AV.int .i64 v9), (17, AV.int .i64 v11), (114, AV.bool (v11 != v13))] [(0, .cells (List.map (AV.int .i64) v10))] 6 (by simp [-List.reduceReplicate, sOf_set, ofI_set, allU8_set, h1, h1_, h3, h3_, h8, h8_, h9, h10, h10_, h11, h12, h11_, h12_, h13, h14, h15, h16, h15_, h16_, h17, h19, h20, h22_, h22__, h22q, h23_, h23__, h23q, h24, h24_, h25, h25_]) (by simp [-List.reduceReplicate, sOf_set, ofI_set, allU8_set, h1, h1_, h3, h3_, h8, h8_, h9, h10, h10_, h11, h12, h11_, h12_, h13, h14, h15, h16, h15_, h16_, h17, h19, h20, h22_, h22__, h22q, h23_, h23__, h23q, h24, h24_, h25, h25_]) (by simp) ?_
                by_cases h26 : v11 ≠ v13
                · replace hF := ite_t h26 hF
                  have h26_ := eqb_f h26
                  have h26__ := neb_t h26
                  refine AW.condT (by decide) (by first | (simp [-List.reduceReplicate, sOf_set, ofI_set, allU8_set, h1, h1_, h3, h3_, h8, h8_, h9, h10, h10_, h11, h12, h11_, h12_, h13, h14, h15, h16, h15_, h16_, h17, h19, h20, h22_, h22__, h22q, h23_, h23__, h23q, h24, h24_, h25, h25_, h26, h26_, h26__]; done) | (simp [-List.reduceReplicate, sOf_set, ofI_set, allU8_set, h1, h1_, h3, h3_, h8, h8_, h9, h10, h10_, h11, h12, h11_, h12_, h13, h14, h15, h16, h15_, h16_, h17, h19, h20, h22_, h22__, h22q, h23_, h23__, h23q, h24, h24_, h25, h25_, h26, h26_, h26__]; omega)) ?_
                  refine AW.seqR mixed [] [none] (by kernel_rfl) fun G886 R886 hG886 hR886 => ?_
                  try simp [-List.reduceReplicate, sOf_set, ofI_set, allU8_set, h1, h1_, h3, h3_, h8, h8_, h9, h10, h10_, h11, h12, h11_, h12_, h13, h14, h15, h16, h15_, h16_, h17, h19, h20, h22_, h22__, h22q, h23_, h23__, h23q, h24, h24_, h25, h25_, h26, h26_, h26__]
                  repeat' apply And.intro
                  any_goals (first | exact hG886 _ (by kernel_rfl) | refine hR886 _ _ _ ?_ | omega | (unfold maxLen; omega) | (simp [-List.reduceReplicate, sOf_set, ofI_set, allU8_set, h1, h1_, h3, h3_, h8, h8_, h9, h10, h10_, h11, h12, h11_, h12_, h13, h14, h15, h16, h15_, h16_, h17, h19, h20, h22_, h22__, h22q, h23_, h23__, h23q, h24, h24_, h25, h25_, h26, h26_, h26__]; done) | (simp [-List.reduceReplicate, sOf_set, ofI_set, allU8_set, h1, h1_, h3, h3_, h8, h8_, h9, h10, h10_, h11, h12, h11_, h12_, h13, h14, h15, h16, h15_, h16_, h17, h19, h20, h22_, h22__, h22q, h23_, h23__, h23q, h24, h24_, h25, h25_, h26, h26_, h26__]; omega))
                  refine AW.wk [(8, AV.bool false)] [] 6 (by simp [-List.reduceReplicate, sOf_set, ofI_set, allU8_set, h1, h1_, h3, h3_, h8, h8_, h9, h10, h10_, h11, h12, h11_, h12_, h13, h14, h15, h16, h15_, h16_, h17, h19, h20, h22_, h22__, h22q, h23_, h23__, h23q, h24, h24_, h25, h25_, h26, h26_, h26__]) (by simp [-List.reduceReplicate, sOf_set, ofI_set, allU8_set, h1, h1_, h3, h3_, h8, h8_, h9, h10, h10_, h11, h12, h11_, h12_, h13, h14, h15, h16, h15_, h16_, h17, h19, h20, h22_, h22__, h22q, h23_, h23__, h23q, h24, h24_, h25, h25_, h26, h26_, h26__]) (by simp) ?_
                  simp only [Option.some.injEq] at hF
                  subst hF
                  refine AW.ret (hQ _ _ _ ?_ (matchO_0 ?_)).1
                  · simp [Try.f8, h1, h1_, h3, h3_, h8, h8_, h9, h10, h10_, h11, h12, h11_, h12_, h13, h14, h15, h16, h15_, h16_, h17, h19, h20, h22_, h22__, h22q, h23_, h23__, h23q, h24, h24_, h25, h25_, h26, h26_, h26__]
                  · simp [h1, h1_, h3, h3_, h8, h8_, h9, h10, h10_, h11, h12, h11_, h12_, h13, h14, h15, h16, h15_, h16_, h17, h19, h20, h22_, h22__, h22q, h23_, h23__, h23q, h24, h24_, h25, h25_, h26, h26_, h26__]
                · replace hF := ite_f h26 hF
                  have h26q : v11 = v13 := Classical.not_not.1 h26
                  have h26_ := eqb_t h26q
                  have h26__ := neb_f h26q
                  refine AW.condF (by decide) (by first | (simp [-List.reduceReplicate, sOf_set, ofI_set, allU8_set, h1, h1_, h3, h3_, h8, h8_, h9, h10, h10_, h11, h12, h11_, h12_, h13, h14, h15, h16, h15_, h16_, h17, h19, h20, h22_, h22__, h22q, h23_, h23__, h23q, h24, h24_, h25, h25_, h26_, h26__]; done) | (simp [-List.reduceReplicate, sOf_set, ofI_set, allU8_set, h1, h1_, h3, h3_, h8, h8_, h9, h10, h10_, h11, h12, h11_, h12_, h13, h14, h15, h16, h15_, h16_, h17, h19, h20, h22_, h22__, h22q, h23_, h23__, h23q, h24, h24_, h25, h25_, h26_, h26__]; omega)) ?_
                  refine AW.skip ?_
                  refine hK880 _ _ _ ?_
                  refine AW.region mixed [] [none, none, none, none, none, none, none] (by kernel_rfl) fun G887 R887 hG887 hR887 => ?_
                  obtain ⟨⟨h27, h28⟩, hF⟩ := chk_elim hF
                  have h28_ := ne_of_lt h28
                  obtain ⟨v15, h29, h30, h31, hF⟩ := idx_elim hF
                  have h31_ := get_of h31
                  try simp [-List.reduceReplicate] at h31_
                  have h30_ := h30
                  try simp [-List.reduceReplicate] at h30_
                  obtain ⟨⟨h32, h33⟩, hF⟩ := chk_elim hF
                  have h33_ := ne_of_lt h33
                  try simp [-List.reduceReplicate, sOf_set, ofI_set, allU8_set, h1, h1_, h3, h3_, h8, h8_, h9, h10, h10_, h11, h12, h11_, h12_, h13, h14, h15, h16, h15_, h16_, h17, h19, h20, h22_, h22__, h22q, h23_, h23__, h23q, h24, h24_, h25, h25_, h26_, h26__, h27, h28, h28_, h29, h30, h31, h31_, h30_, h32, h33, h33_]
                  repeat' apply And.intro
                  any_goals (first | exact hG887 _ (by kernel_rfl) | refine hR887 _ _ _ ?_ | omega | (unfold maxLen; omega) | (simp [-List.reduceReplicate, sOf_set, ofI_set, allU8_set, h1, h1_, h3, h3_, h8, h8_, h9, h10, h10_, h11, h12, h11_, h12_, h13, h14, h15, h16, h15_, h16_, h17, h19, h20, h22_, h22__, h22q, h23_, h23__, h23q, h24, h24_, h25, h25_, h26_, h26__, h27, h28, h28_, h29, h30, h31, h31_, h30_, h32, h33, h33_]; done) | (simp [-List.reduceReplicate, sOf_set, ofI_set, allU8_set, h1, h1_, h3, h3_, h8, h8_, h9, h10, h10_, h11, h12, h11_, h12_, h13, h14, h15, h16, h15_, h16_, h17, h19, h20, h22_, h22__, h22q, h23_, h23__, h23q, h24, h24_, h25, h25_, h26_, h26__, h27, h28, h28_, h29, h30, h31, h31_, h30_, h32, h33, h33_]; omega))
                  refine hK869 _ _ _ ?_
                  refine AW.wk [(9, AV.int .i64 (IntKind.wrap .i64 (1 + Int.tmod (IntKind.wrap .i64 v2) 40))), (10, AV.lst false false (List.map (AV.int .i64) v7)), (12, AV.int .i64 (Int.tmod (IntKind.wrap .i64 v1) (IntKind.wrap .i64 ((v7.length : Int) + 1)))), (13, AV.int .i64 (IntKind.wrap .i64 (Int.tdiv (IntKind.wrap .i64 v3) 2))), (14, AV.slc 0 0 1 ((v10.set (v11).toNat (IntKind.wrap .i64 (v15 + 1))).length) true), (15, AV.int .i64 v9)] [(0, .cells (List.map (AV.int .i64) (v10.set (v11).toNat (IntKind.wrap .i64 (v15 + 1)))))] 6 (by simp [-List.reduceReplicate, sOf_set, ofI_set, allU8_set, h1, h1_, h3, h3_, h8, h8_, h9, h10, h10_, h11, h12, h11_, h12_, h13, h14, h15, h16, h15_, h16_, h17, h19, h20, h22_, h22__, h22q, h23_, h23__, h23q, h24, h24_, h25, h25_, h26_, h26__, h27, h28, h28_, h29, h30, h31, h31_, h30_, h32, h33, h33_]) (by simp [-List.reduceReplicate, sOf_set, ofI_set, allU8_set, h1, h1_, h3, h3_, h8, h8_, h9, h10, h10_, h11, h12, h11_, h12_, h13, h14, h15, h16, h15_, h16_, h17, h19, h20, h22_, h22__, h22q, h23_, h23__, h23q, h24, h24_, h25, h25_, h26_, h26__, h27, h28, h28_, h29, h30, h31, h31_, h30_, h32, h33, h33_]) (by simp) ?_
                  refine AW.region mixed [] [none, none, none] (by kernel_rfl) fun G888 R888 hG888 hR888 => ?_
                  try simp [-List.reduceReplicate, sOf_set, ofI_set, allU8_set, h1, h1_, h3, h3_, h8, h8_, h9, h10, h10_, h11, h12, h11_, h12_, h13, h14, h15, h16, h15_, h16_, h17, h19, h20, h22_, h22__, h22q, h23_, h23__, h23q, h24, h24_, h25, h25_, h26_, h26__, h27, h28, h28_, h29, h30, h31, h31_, h30_, h32, h33, h33_]
                  repeat' apply And.intro
                  any_goals (first | exact hG888 _ (by kernel_rfl) | refine hR888 _ _ _ ?_ | omega | (unfold maxLen; omega) | (simp [-List.reduceReplicate, sOf_set, ofI_set, allU8_set, h1, h1_, h3, h3_, h8, h8_, h9, h10, h10_, h11, h12, h11_, h12_, h13, h14, h15, h16, h15_, h16_, h17, h19, h20, h22_, h22__, h22q, h23_, h23__, h23q, h24, h24_, h25, h25_, h26_, h26__, h27, h28, h28_, h29, h30, h31, h31_, h30_, h32, h33, h33_]; done) | (simp [-List.reduceReplicate, sOf_set, ofI_set, allU8_set, h1, h1_, h3, h3_, h8, h8_, h9, h10, h10_, h11, h12, h11_, h12_, h13, h14, h15, h16, h15_, h16_, h17, h19, h20, h22_, h22__, h22q, h23_, h23__, h23q, h24, h24_, h25, h25_, h26_, h26__, h27, h28, h28_, h29, h30, h31, h31_, h30_, h32, h33, h33_]; omega))
                  refine hK847 _ _ _ ?_
                  refine Can.weak [(9, AV.int .i64 (IntKind.wrap .i64 (1 + Int.tmod (IntKind.wrap .i64 v2) 40))), (10, AV.lst false false (List.map (AV.int .i64) v7)), (12, AV.int .i64 (Int.tmod (IntKind.wrap .i64 v1) (IntKind.wrap .i64 ((v7.length : Int) + 1)))), (13, AV.int .i64 (IntKind.wrap .i64 (Int.tdiv (IntKind.wrap .i64 v3) 2))), (14, AV.slc 0 0 1 ((v10.set (v11).toNat (IntKind.wrap .i64 (v15 + 1))).length) true), (15, AV.int .i64 (IntKind.wrap .i64 (v9 + 1)))] [(0, .cells (List.map (AV.int .i64) (v10.set (v11).toNat (IntKind.wrap .i64 (v15 + 1)))))] 6 (by simp [-List.reduceReplicate, sOf_set, ofI_set, allU8_set, h1, h1_, h3, h3_, h8, h8_, h9, h10, h10_, h11, h12, h11_, h12_, h13, h14, h15, h16, h15_, h16_, h17, h19, h20, h22_, h22__, h22q, h23_, h23__, h23q, h24, h24_, h25, h25_, h26_, h26__, h27, h28, h28_, h29, h30, h31, h31_, h30_, h32, h33, h33_]) (by simp [-List.reduceReplicate, sOf_set, ofI_set, allU8_set, h1, h1_, h3, h3_, h8, h8_, h9, h10, h10_, h11, h12, h11_, h12_, h13, h14, h15, h16, h15_, h16_, h17, h19, h20, h22_, h22__, h22q, h23_, h23__, h23q, h24, h24_, h25, h25_, h26_, h26__, h27, h28, h28_, h29, h30, h31, h31_, h30_, h32, h33, h33_]) (by simp) ?_
                  refine Can.ren (m := 0) h0 [(0, 0)] [(9, AV.int .i64 (IntKind.wrap .i64 (1 + Int.tmod (IntKind.wrap .i64 v2) 40))), (10, AV.lst false false (List.map (AV.int .i64) v7)), (12, AV.int .i64 (Int.tmod (IntKind.wrap .i64 v1) (IntKind.wrap .i64 ((v7.length : Int) + 1)))), (13, AV.int .i64 (IntKind.wrap .i64 (Int.tdiv (IntKind.wrap .i64 v3) 2))), (14, AV.slc 0 0 1 ((v10.set (v11).toNat (IntKind.wrap .i64 (v15 + 1))).length) true), (15, AV.int .i64 (IntKind.wrap .i64 (v9 + 1)))] [(0, .cells (List.map (AV.int .i64) (v10.set (v11).toNat (IntKind.wrap .i64 (v15 + 1)))))] 1 (by decide) (by decide) (by decide) rfl (by simp [-List.reduceReplicate, sOf_set, ofI_set, allU8_set, h1, h1_, h3, h3_, h8, h8_, h9, h10, h10_, h11, h12, h11_, h12_, h13, h14, h15, h16, h15_, h16_, h17, h19, h20, h22_, h22__, h22q, h23_, h23__, h23q, h24, h24_, h25, h25_, h26_, h26__, h27, h28, h28_, h29, h30, h31, h31_, h30_, h32, h33, h33_]) (by simp [-List.reduceReplicate, sOf_set, ofI_set, allU8_set, h1, h1_, h3, h3_, h8, h8_, h9, h10, h10_, h11, h12, h11_, h12_, h13, h14, h15, h16, h15_, h16_, h17, h19, h20, h22_, h22__, h22q, h23_, h23__, h23q, h24, h24_, h25, h25_, h26_, h26__, h27, h28, h28_, h29, h30, h31, h31_, h30_, h32, h33, h33_]) ?_
                  exact Can.next (k' := n2) ((IntKind.wrap .i64 (v9 + 1), v10.set (v11).toNat (IntKind.wrap .i64 (v15 + 1)))) (by omega) hF (by simp [-List.reduceReplicate, sOf_set, ofI_set, allU8_set, h1, h1_, h3, h3_, h8, h8_, h9, h10, h10_, h11, h12, h11_, h12_, h13, h14, h15, h16, h15_, h16_, h17, h19, h20, h22_, h22__, h22q, h23_, h23__, h23q, h24, h24_, h25, h25_, h26_, h26__, h27, h28, h28_, h29, h30, h31, h31_, h30_, h32, h33, h33_]) (by simp [-List.reduceReplicate, sOf_set, ofI_set, allU8_set, h1, h1_, h3, h3_, h8, h8_, h9, h10, h10_, h11, h12, h11_, h12_, h13, h14, h15, h16, h15_, h16_, h17, h19, h20, h22_, h22__, h22q, h23_, h23__, h23q, h24, h24_, h25, h25_, h26_, h26__, h27, h28, h28_, h29, h30, h31, h31_, h30_, h32, h33, h33_]) (by simp)
      · replace hF := ite_f h10 hF
        have h10_ := h10
        try simp [-List.reduceReplicate] at h10_
        refine AW.condF (by decide) (by first | (simp [-List.reduceReplicate, sOf_set, ofI_set, allU8_set, h1, h1_, h3, h3_, h8, h8_, h9, h10, h10_]; done) | (simp [-List.reduceReplicate, sOf_set, ofI_set, allU8_set, h1, h1_, h3, h3_, h8, h8_, h9, h10, h10_]; omega)) ?_
        refine AW.exit ?_
        try simp [-List.reduceReplicate]
        refine hK722 _ _ _ ?_
        refine AW.wk [(9, AV.int .i64 (IntKind.wrap .i64 (1 + Int.tmod (IntKind.wrap .i64 v2) 40))), (14, AV.slc 0 0 1 v10.length true)] [(0, .cells (List.map (AV.int .i64) v10))] 1 (by simp [-List.reduceReplicate, sOf_set, ofI_set, allU8_set, h1, h1_, h3, h3_, h8, h8_, h9, h10, h10_]) (by simp [-List.reduceReplicate, sOf_set, ofI_set, allU8_set, h1, h1_, h3, h3_, h8, h8_, h9, h10, h10_]) (by simp) ?_
        refine AW.frz 0 (o := .cells (List.map (AV.int .i64) v10)) (by simp [-List.reduceReplicate, sOf_set, ofI_set, allU8_set, h1, h1_, h3, h3_, h8, h8_, h9, h10, h10_]) rfl [(14, AV.lst false true (List.map (AV.int .i64) v10))] [] ⟨(.l (by simp) (by simp) (by simp) (by simp)), trivial⟩ trivial ?_
        refine AW.wk [(9, AV.int .i64 (IntKind.wrap .i64 (1 + Int.tmod (IntKind.wrap .i64 v2) 40))), (14, AV.lst false true (List.map (AV.int .i64) v10))] [] 1 (by simp [-List.reduceReplicate, sOf_set, ofI_set, allU8_set, h1, h1_, h3, h3_, h8, h8_, h9, h10, h10_]) (by simp [-List.reduceReplicate, sOf_set, ofI_set, allU8_set, h1, h1_, h3, h3_, h8, h8_, h9, h10, h10_]) (by simp) ?_
        refine AW.seq fun K927 hK927 => ?_
        refine AW.seqR mixed [] [none] (by kernel_rfl) fun G928 R928 hG928 hR928 => ?_
        try simp [-List.reduceReplicate, sOf_set, ofI_set, allU8_set, h1, h1_, h3, h3_, h8, h8_, h9, h10, h10_]
        repeat' apply And.intro
        any_goals (first | exact hG928 _ (by kernel_rfl) | refine hR928 _ _ _ ?_ | omega | (unfold maxLen; omega) | (simp [-List.reduceReplicate, sOf_set, ofI_set, allU8_set, h1, h1_, h3, h3_, h8, h8_, h9, h10, h10_]; done) | (simp [-List.reduceReplicate, sOf_set, ofI_set, allU8_set, h1, h1_, h3, h3_, h8, h8_, h9, h10, h10_]; omega))
        refine AW.wk [(9, AV.int .i64 (IntKind.wrap .i64 (1 + Int.tmod (IntKind.wrap .i64 v2) 40))), (14, AV.lst false true (List.map (AV.int .i64) v10)), (22, AV.int .i64 0)] [] 1 (by simp [-List.reduceReplicate, sOf_set, ofI_set, allU8_set, h1, h1_, h3, h3_, h8, h8_, h9, h10, h10_]) (by simp [-List.reduceReplicate, sOf_set, ofI_set, allU8_set, h1, h1_, h3, h3_, h8, h8_, h9, h10, h10_]) (by simp) ?_
        refine AW.block ?_
        refine AW.rnm (m := 0) h0 [] [(9, AV.int .i64 (IntKind.wrap .i64 (1 + Int.tmod (IntKind.wrap .i64 v2) 40))), (14, AV.lst false true (List.map (AV.int .i64) v10)), (22, AV.int .i64 0)] [] 0 (by decide) (by decide) (by decide) rfl (by simp [-List.reduceReplicate, sOf_set, ofI_set, allU8_set, h1, h1_, h3, h3_, h8, h8_, h9, h10, h10_]) (by simp [-List.reduceReplicate, sOf_set, ofI_set, allU8_set, h1, h1_, h3, h3_, h8, h8_, h9, h10, h10_]) ?_
        refine AW.loopF (α := Int) (fun n v16 => law25_BeaconMixes.L3 k v2 v10 n v16 = some v4) (fun v16 => [(9, AV.int .i64 (IntKind.wrap .i64 (1 + Int.tmod (IntKind.wrap .i64 v2) 40))), (14, AV.lst false true (List.map (AV.int .i64) v10)), (22, AV.int .i64 v16)]) (fun v16 => []) 0 k (0) hF (by simp [-List.reduceReplicate, sOf_set, ofI_set, allU8_set, h1, h1_, h3, h3_, h8, h8_, h9, h10, h10_]) (by simp [-List.reduceReplicate, sOf_set, ofI_set, allU8_set, h1, h1_, h3, h3_, h8, h8_, h9, h10, h10_]) (by simp) ?_
        rintro (_|n3) v16 hF K956 hK956
        · try dsimp only at hF
          rw [law25_BeaconMixes.L3] at hF; cases hF
        try dsimp only at hF
        rw [law25_BeaconMixes.L3] at hF
        refine AW.seq fun K958 hK958 => ?_
        refine AW.seqR mixed [] [none, none, none] (by kernel_rfl) fun G959 R959 hG959 hR959 => ?_
        try simp [-List.reduceReplicate, sOf_set, ofI_set, allU8_set, h1, h1_, h3, h3_, h8, h8_, h9, h10, h10_]
        repeat' apply And.intro
        any_goals (first | exact hG959 _ (by kernel_rfl) | refine hR959 _ _ _ ?_ | omega | (unfold maxLen; omega) | (simp [-List.reduceReplicate, sOf_set, ofI_set, allU8_set, h1, h1_, h3, h3_, h8, h8_, h9, h10, h10_]; done) | (simp [-List.reduceReplicate, sOf_set, ofI_set, allU8_set, h1, h1_, h3, h3_, h8, h8_, h9, h10, h10_]; omega))
        refine AW.wk [(9, AV.int .i64 (IntKind.wrap .i64 (1 + Int.tmod (IntKind.wrap .i64 v2) 40))), (14, AV.lst false true (List.map (AV.int .i64) v10)), (22, AV.int .i64 v16), (123, AV.bool (decide (v16 < IntKind.wrap .i64 (1 + Int.tmod (IntKind.wrap .i64 v2) 40))))] [] 0 (by simp [-List.reduceReplicate, sOf_set, ofI_set, allU8_set, h1, h1_, h3, h3_, h8, h8_, h9, h10, h10_]) (by simp [-List.reduceReplicate, sOf_set, ofI_set, allU8_set, h1, h1_, h3, h3_, h8, h8_, h9, h10, h10_]) (by simp) ?_
        by_cases h34 : v16 < IntKind.wrap .i64 (1 + Int.tmod (IntKind.wrap .i64 v2) 40)
        · replace hF := ite_t h34 hF
          have h34_ := h34
          try simp [-List.reduceReplicate] at h34_
          refine AW.condT (by decide) (by first | (simp [-List.reduceReplicate, sOf_set, ofI_set, allU8_set, h1, h1_, h3, h3_, h8, h8_, h9, h10, h10_, h34, h34_]; done) | (simp [-List.reduceReplicate, sOf_set, ofI_set, allU8_set, h1, h1_, h3, h3_, h8, h8_, h9, h10, h10_, h34, h34_]; omega)) ?_
          refine AW.skip ?_
          refine hK958 _ _ _ ?_
          refine AW.seq fun K962 hK962 => ?_
          refine AW.block ?_
          refine AW.seqR mixed [] [none, none, none, none, none] (by kernel_rfl) fun G963 R963 hG963 hR963 => ?_
          obtain ⟨v17, h35, h36, h37, hF⟩ := idx_elim hF
          have h37_ := get_of h37
          try simp [-List.reduceReplicate] at h37_
          have h36_ := h36
          try simp [-List.reduceReplicate] at h36_
          try simp [-List.reduceReplicate, sOf_set, ofI_set, allU8_set, h1, h1_, h3, h3_, h8, h8_, h9, h10, h10_, h34, h34_, h35, h36, h37, h37_, h36_]
          repeat' apply And.intro
          any_goals (first | exact hG963 _ (by kernel_rfl) | refine hR963 _ _ _ ?_ | omega | (unfold maxLen; omega) | (simp [-List.reduceReplicate, sOf_set, ofI_set, allU8_set, h1, h1_, h3, h3_, h8, h8_, h9, h10, h10_, h34, h34_, h35, h36, h37, h37_, h36_]; done) | (simp [-List.reduceReplicate, sOf_set, ofI_set, allU8_set, h1, h1_, h3, h3_, h8, h8_, h9, h10, h10_, h34, h34_, h35, h36, h37, h37_, h36_]; omega))
          refine AW.wk [(9, AV.int .i64 (IntKind.wrap .i64 (1 + Int.tmod (IntKind.wrap .i64 v2) 40))), (14, AV.lst false true (List.map (AV.int .i64) v10)), (22, AV.int .i64 v16), (130, AV.bool (v17 != 1))] [] 0 (by simp [-List.reduceReplicate, sOf_set, ofI_set, allU8_set, h1, h1_, h3, h3_, h8, h8_, h9, h10, h10_, h34, h34_, h35, h36, h37, h37_, h36_]) (by simp [-List.reduceReplicate, sOf_set, ofI_set, allU8_set, h1, h1_, h3, h3_, h8, h8_, h9, h10, h10_, h34, h34_, h35, h36, h37, h37_, h36_]) (by simp) ?_
          by_cases h38 : v17 ≠ 1
          · replace hF := ite_t h38 hF
            have h38_ := eqb_f h38
            have h38__ := neb_t h38
            refine AW.condT (by decide) (by first | (simp [-List.reduceReplicate, sOf_set, ofI_set, allU8_set, h1, h1_, h3, h3_, h8, h8_, h9, h10, h10_, h34, h34_, h35, h36, h37, h37_, h36_, h38, h38_, h38__]; done) | (simp [-List.reduceReplicate, sOf_set, ofI_set, allU8_set, h1, h1_, h3, h3_, h8, h8_, h9, h10, h10_, h34, h34_, h35, h36, h37, h37_, h36_, h38, h38_, h38__]; omega)) ?_
            refine AW.seqR mixed [] [none] (by kernel_rfl) fun G964 R964 hG964 hR964 => ?_
            try simp [-List.reduceReplicate, sOf_set, ofI_set, allU8_set, h1, h1_, h3, h3_, h8, h8_, h9, h10, h10_, h34, h34_, h35, h36, h37, h37_, h36_, h38, h38_, h38__]
            repeat' apply And.intro
            any_goals (first | exact hG964 _ (by kernel_rfl) | refine hR964 _ _ _ ?_ | omega | (unfold maxLen; omega) | (simp [-List.reduceReplicate, sOf_set, ofI_set, allU8_set, h1, h1_, h3, h3_, h8, h8_, h9, h10, h10_, h34, h34_, h35, h36, h37, h37_, h36_, h38, h38_, h38__]; done) | (simp [-List.reduceReplicate, sOf_set, ofI_set, allU8_set, h1, h1_, h3, h3_, h8, h8_, h9, h10, h10_, h34, h34_, h35, h36, h37, h37_, h36_, h38, h38_, h38__]; omega))
            refine AW.wk [(8, AV.bool false)] [] 0 (by simp [-List.reduceReplicate, sOf_set, ofI_set, allU8_set, h1, h1_, h3, h3_, h8, h8_, h9, h10, h10_, h34, h34_, h35, h36, h37, h37_, h36_, h38, h38_, h38__]) (by simp [-List.reduceReplicate, sOf_set, ofI_set, allU8_set, h1, h1_, h3, h3_, h8, h8_, h9, h10, h10_, h34, h34_, h35, h36, h37, h37_, h36_, h38, h38_, h38__]) (by simp) ?_
            simp only [Option.some.injEq] at hF
            subst hF
            refine AW.ret (hQ _ _ _ ?_ (matchO_0 ?_)).1
            · simp [Try.f8, h1, h1_, h3, h3_, h8, h8_, h9, h10, h10_, h34, h34_, h35, h36, h37, h37_, h36_, h38, h38_, h38__]
            · simp [h1, h1_, h3, h3_, h8, h8_, h9, h10, h10_, h34, h34_, h35, h36, h37, h37_, h36_, h38, h38_, h38__]
          · replace hF := ite_f h38 hF
            have h38q : v17 = 1 := Classical.not_not.1 h38
            have h38_ := eqb_t h38q
            have h38__ := neb_f h38q
            refine AW.condF (by decide) (by first | (simp [-List.reduceReplicate, sOf_set, ofI_set, allU8_set, h1, h1_, h3, h3_, h8, h8_, h9, h10, h10_, h34, h34_, h35, h36, h37, h37_, h36_, h38_, h38__, h38q]; done) | (simp [-List.reduceReplicate, sOf_set, ofI_set, allU8_set, h1, h1_, h3, h3_, h8, h8_, h9, h10, h10_, h34, h34_, h35, h36, h37, h37_, h36_, h38_, h38__, h38q]; omega)) ?_
            refine AW.skip ?_
            refine hK962 _ _ _ ?_
            refine AW.region mixed [] [none, none, none] (by kernel_rfl) fun G965 R965 hG965 hR965 => ?_
            try simp [-List.reduceReplicate, sOf_set, ofI_set, allU8_set, h1, h1_, h3, h3_, h8, h8_, h9, h10, h10_, h34, h34_, h35, h36, h37, h37_, h36_, h38_, h38__, h38q]
            repeat' apply And.intro
            any_goals (first | exact hG965 _ (by kernel_rfl) | refine hR965 _ _ _ ?_ | omega | (unfold maxLen; omega) | (simp [-List.reduceReplicate, sOf_set, ofI_set, allU8_set, h1, h1_, h3, h3_, h8, h8_, h9, h10, h10_, h34, h34_, h35, h36, h37, h37_, h36_, h38_, h38__, h38q]; done) | (simp [-List.reduceReplicate, sOf_set, ofI_set, allU8_set, h1, h1_, h3, h3_, h8, h8_, h9, h10, h10_, h34, h34_, h35, h36, h37, h37_, h36_, h38_, h38__, h38q]; omega))
            refine hK956 _ _ _ ?_
            refine Can.weak [(9, AV.int .i64 (IntKind.wrap .i64 (1 + Int.tmod (IntKind.wrap .i64 v2) 40))), (14, AV.lst false true (List.map (AV.int .i64) v10)), (22, AV.int .i64 (IntKind.wrap .i64 (v16 + 1)))] [] 0 (by simp [-List.reduceReplicate, sOf_set, ofI_set, allU8_set, h1, h1_, h3, h3_, h8, h8_, h9, h10, h10_, h34, h34_, h35, h36, h37, h37_, h36_, h38_, h38__, h38q]) (by simp [-List.reduceReplicate, sOf_set, ofI_set, allU8_set, h1, h1_, h3, h3_, h8, h8_, h9, h10, h10_, h34, h34_, h35, h36, h37, h37_, h36_, h38_, h38__, h38q]) (by simp) ?_
            exact Can.next (k' := n3) (IntKind.wrap .i64 (v16 + 1)) (by omega) hF (by simp [-List.reduceReplicate, sOf_set, ofI_set, allU8_set, h1, h1_, h3, h3_, h8, h8_, h9, h10, h10_, h34, h34_, h35, h36, h37, h37_, h36_, h38_, h38__, h38q]) (by simp [-List.reduceReplicate, sOf_set, ofI_set, allU8_set, h1, h1_, h3, h3_, h8, h8_, h9, h10, h10_, h34, h34_, h35, h36, h37, h37_, h36_, h38_, h38__, h38q]) (by simp)
        · replace hF := ite_f h34 hF
          have h34_ := h34
          try simp [-List.reduceReplicate] at h34_
          refine AW.condF (by decide) (by first | (simp [-List.reduceReplicate, sOf_set, ofI_set, allU8_set, h1, h1_, h3, h3_, h8, h8_, h9, h10, h10_, h34, h34_]; done) | (simp [-List.reduceReplicate, sOf_set, ofI_set, allU8_set, h1, h1_, h3, h3_, h8, h8_, h9, h10, h10_, h34, h34_]; omega)) ?_
          refine AW.exit ?_
          try simp [-List.reduceReplicate]
          refine hK927 _ _ _ ?_
          refine AW.seqR mixed [] [none, none] (by kernel_rfl) fun G966 R966 hG966 hR966 => ?_
          try simp [-List.reduceReplicate, sOf_set, ofI_set, allU8_set, h1, h1_, h3, h3_, h8, h8_, h9, h10, h10_, h34, h34_]
          repeat' apply And.intro
          try any_goals (first | omega | (unfold maxLen; omega) | (simp [-List.reduceReplicate, sOf_set, ofI_set, allU8_set, h1, h1_, h3, h3_, h8, h8_, h9, h10, h10_, h34, h34_]; done))
          obtain ⟨v18, h39, hF⟩ := bnd1_elim hF
          refine aCall_l (w_law25_awake k _ h39) (by simp) [] [] [] rfl .nil (by simp [-List.reduceReplicate, sOf_set, ofI_set, allU8_set, h1, h1_, h3, h3_, h8, h8_, h9, h10, h10_, h34, h34_]) (by decide) (by simp) (by simp) (.inl rfl) (by simp) (by simp) ?_
          try simp [-List.reduceReplicate, sOf_set, ofI_set, allU8_set, h1, h1_, h3, h3_, h8, h8_, h9, h10, h10_, h34, h34_]
          repeat' apply And.intro
          any_goals (first | exact hG966 _ (by kernel_rfl) | refine hR966 _ _ _ ?_ | omega | (unfold maxLen; omega) | (simp [-List.reduceReplicate, sOf_set, ofI_set, allU8_set, h1, h1_, h3, h3_, h8, h8_, h9, h10, h10_, h34, h34_]; done) | (simp [-List.reduceReplicate, sOf_set, ofI_set, allU8_set, h1, h1_, h3, h3_, h8, h8_, h9, h10, h10_, h34, h34_]; omega))
          refine AW.wk [(8, AV.bool v18)] [] 0 (by simp [-List.reduceReplicate, sOf_set, ofI_set, allU8_set, h1, h1_, h3, h3_, h8, h8_, h9, h10, h10_, h34, h34_]) (by simp [-List.reduceReplicate, sOf_set, ofI_set, allU8_set, h1, h1_, h3, h3_, h8, h8_, h9, h10, h10_, h34, h34_]) (by simp) ?_
          simp only [Option.some.injEq] at hF
          subst hF
          refine AW.ret (hQ _ _ _ ?_ (matchO_0 ?_)).1
          · simp [Try.f8, h1, h1_, h3, h3_, h8, h8_, h9, h10, h10_, h34, h34_]
          · simp [h1, h1_, h3, h3_, h8, h8_, h9, h10, h10_, h34, h34_]
end Go.TF
