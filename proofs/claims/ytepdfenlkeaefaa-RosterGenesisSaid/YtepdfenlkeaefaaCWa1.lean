/- Walks: the Go text computes the Lean functions (printed by a program of our own). -/
import Derived.Test.YtepdfenlkeaefaaCPu
import Derived.Test.YtepdfenlkeaefaaCAbsT
import Derived.Test.YtepdfenlkeaefaaCWa0
set_option linter.unusedVariables false
set_option linter.unusedSimpArgs false
set_option maxRecDepth 100000
namespace Go.TF
open Go Go.Abs Go.Proofs Go.Proofs.YtepdfenlkeaefaaCT
set_option maxHeartbeats 4000000 in
theorem w_mill_Light (k : Nat) (v0 : (List Int)) (v1 : Bool) (hF : mill_Light k v0 = some v1) :
    FCall Try.prog 16 [AV.lst false false (List.map (AV.int .i64) v0)] [] (AV.bool v1) [] := by
  unfold mill_Light at hF
  refine FCall.enter Try.func16 rfl (by simp) (by decide) (by simp) (by simp) (by simp) (by simp) (by simp) ?_
  intro c0 w0 Q h0 hQ
  refine AW.wk [(0, AV.lst false false (List.map (AV.int .i64) v0))] [] 0 (by simp) (by simp) (by simp) ?_
  refine AW.seqR mixed [] [none] (by kernel_rfl) fun G3 R3 hG3 hR3 => ?_
  try simp
  repeat' apply And.intro
  any_goals (first | exact hG3 _ (by kernel_rfl) | refine hR3 _ _ _ ?_ | omega | (unfold maxLen; omega) | (simp; done) | (simp; omega))
  refine AW.wk [(0, AV.lst false false (List.map (AV.int .i64) v0))] [] 0 (by simp) (by simp) (by simp) ?_
  refine AW.seqR mixed [] [none, none, none, none] (by kernel_rfl) fun G4 R4 hG4 hR4 => ?_
  try simp
  repeat' apply And.intro
  any_goals (first | exact hG4 _ (by kernel_rfl) | refine hR4 _ _ _ ?_ | omega | (unfold maxLen; omega) | (simp; done) | (simp; omega))
  refine AW.wk [(2, AV.bool (decide ((v0.length : Int) ≤ 400)))] [] 0 (by simp) (by simp) (by simp) ?_
  simp only [Option.some.injEq] at hF
  subst hF
  refine AW.ret (hQ _ _ _ ?_ (matchO_0 ?_)).1
  · simp [Try.f16]
  · simp
set_option maxHeartbeats 4000000 in
theorem w_roster_key (k : Nat) (v0 : Int) (v1 : Bool) (hF : roster_key k v0 = some v1) :
    FCall Try.prog 97 [AV.int .i64 v0] [] (AV.bool v1) [] := by
  unfold roster_key at hF
  refine FCall.enter Try.func97 rfl (by simp) (by decide) (by simp) (by simp) (by simp) (by simp) (by simp) ?_
  intro c0 w0 Q h0 hQ
  refine AW.wk [(0, AV.int .i64 v0)] [] 0 (by simp) (by simp) (by simp) ?_
  refine AW.seqR mixed [] [none] (by kernel_rfl) fun G3 R3 hG3 hR3 => ?_
  try simp
  repeat' apply And.intro
  any_goals (first | exact hG3 _ (by kernel_rfl) | refine hR3 _ _ _ ?_ | omega | (unfold maxLen; omega) | (simp; done) | (simp; omega))
  refine AW.wk [(0, AV.int .i64 v0)] [] 0 (by simp) (by simp) (by simp) ?_
  refine AW.seqR mixed [] [none, none, none, some (5, true), some (5, true), none, none] (by kernel_rfl) fun G4 R4 hG4 hR4 => ?_
  by_cases h1 : 0 ≤ v0
  · replace hF := ite_t h1 hF
    have h1_ := h1
    try simp at h1_
    try simp [h1, h1_]
    repeat' apply And.intro
    any_goals (first | exact hG4 _ (by kernel_rfl) | refine hR4 _ _ _ ?_ | omega | (unfold maxLen; omega) | (simp [h1, h1_]; done) | (simp [h1, h1_]; omega))
    refine AW.wk [(2, AV.bool (decide (v0 < 64)))] [] 0 (by simp [h1, h1_]) (by simp [h1, h1_]) (by simp) ?_
    simp only [Option.some.injEq] at hF
    subst hF
    refine AW.ret (hQ _ _ _ ?_ (matchO_0 ?_)).1
    · simp [Try.f97, h1, h1_]
    · simp [h1, h1_]
  · replace hF := ite_f h1 hF
    have h1_ := h1
    try simp at h1_
    try simp [h1, h1_]
    repeat' apply And.intro
    any_goals (first | exact hG4 _ (by kernel_rfl) | refine hR4 _ _ _ ?_ | omega | (unfold maxLen; omega) | (simp [h1, h1_]; done) | (simp [h1, h1_]; omega))
    refine AW.wk [(2, AV.bool false)] [] 0 (by simp [h1, h1_]) (by simp [h1, h1_]) (by simp) ?_
    simp only [Option.some.injEq] at hF
    subst hF
    refine AW.ret (hQ _ _ _ ?_ (matchO_0 ?_)).1
    · simp [Try.f97, h1, h1_]
    · simp [h1, h1_]
set_option maxHeartbeats 4000000 in
theorem w_roster_of (k : Nat) (v0 : (List Int)) (v1 : (List Bool)) (hF : roster_of k v0 = some v1) :
    FCall Try.prog 98 [AV.lst false false (List.map (AV.int .i64) v0)] [] (AV.agg (List.map AV.bool v1)) [] := by
  unfold roster_of at hF
  refine FCall.enter Try.func98 rfl (by simp) (by decide) (by simp) (by simp) (by simp) (by simp) (by simp) ?_
  intro c0 w0 Q h0 hQ
  refine AW.wk [(0, AV.lst false false (List.map (AV.int .i64) v0))] [] 0 (by simp) (by simp) (by simp) ?_
  refine AW.seqR mixed [] [none] (by kernel_rfl) fun G89 R89 hG89 hR89 => ?_
  try simp
  repeat' apply And.intro
  any_goals (first | exact hG89 _ (by kernel_rfl) | refine hR89 _ _ _ ?_ | omega | (unfold maxLen; omega) | (simp; done) | (simp; omega))
  refine AW.wk [(0, AV.lst false false (List.map (AV.int .i64) v0)), (2, AV.ptr 0 0)] [(0, .cells (List.map AV.bool (List.replicate 64 false)))] 1 (by simp) (by simp) (by simp) ?_
  refine AW.seqR mixed [] [none] (by kernel_rfl) fun G90 R90 hG90 hR90 => ?_
  try simp
  repeat' apply And.intro
  any_goals (first | exact hG90 _ (by kernel_rfl) | refine hR90 _ _ _ ?_ | omega | (unfold maxLen; omega) | (simp; done) | (simp; omega))
  refine AW.wk [(0, AV.lst false false (List.map (AV.int .i64) v0)), (2, AV.ptr 0 0), (3, AV.ptr 1 0)] [(0, .cells (List.map AV.bool (List.replicate 64 false))), (1, .cells (List.map AV.bool (List.replicate 64 false)))] 2 (by simp) (by simp) (by simp) ?_
  refine AW.seq fun K133 hK133 => ?_
  refine AW.seqR mixed [] [none, none, none] (by kernel_rfl) fun G134 R134 hG134 hR134 => ?_
  try simp
  repeat' apply And.intro
  any_goals (first | exact hG134 _ (by kernel_rfl) | refine hR134 _ _ _ ?_ | omega | (unfold maxLen; omega) | (simp; done) | (simp; omega))
  refine AW.wk [(2, AV.ptr 0 0), (3, AV.ptr 1 0), (6, AV.lst false false (List.map (AV.int .i64) v0)), (7, AV.int .i64 (v0.length : Int)), (8, AV.int .i64 0)] [(0, .cells (List.map AV.bool (List.replicate 64 false))), (1, .cells (List.map AV.bool (List.replicate 64 false)))] 2 (by simp) (by simp) (by simp) ?_
  refine AW.block ?_
  refine AW.loopF (α := (Int × (List Bool))) (fun n (v2, v3) => roster_of.L1 k v0 n v2 v3 = some v1) (fun (v2, v3) => [(2, AV.ptr 0 0), (3, AV.ptr 1 0), (6, AV.lst false false (List.map (AV.int .i64) v0)), (7, AV.int .i64 (v0.length : Int)), (8, AV.int .i64 v2)]) (fun (v2, v3) => [(0, .cells (List.map AV.bool (List.replicate 64 false))), (1, .cells (List.map AV.bool v3))]) 2 k ((0, (List.replicate 64 false))) hF (by simp) (by simp) (by simp) ?_
  rintro (_|n1) ⟨v2, v3⟩ hF K165 hK165
  · try dsimp only at hF
    rw [roster_of.L1] at hF; cases hF
  try dsimp only at hF
  rw [roster_of.L1] at hF
  refine AW.seqR mixed [] [none] (by kernel_rfl) fun G166 R166 hG166 hR166 => ?_
  try simp
  repeat' apply And.intro
  any_goals (first | exact hG166 _ (by kernel_rfl) | refine hR166 _ _ _ ?_ | omega | (unfold maxLen; omega) | (simp; done) | (simp; omega))
  refine AW.wk [(2, AV.ptr 0 0), (3, AV.ptr 1 0), (6, AV.lst false false (List.map (AV.int .i64) v0)), (7, AV.int .i64 (v0.length : Int)), (8, AV.int .i64 v2), (9, AV.bool (decide (v2 < (v0.length : Int))))] [(0, .cells (List.map AV.bool (List.replicate 64 false))), (1, .cells (List.map AV.bool v3))] 2 (by simp) (by simp) (by simp) ?_
  refine AW.seq fun K167 hK167 => ?_
  by_cases h1 : v2 < (v0.length : Int)
  · replace hF := ite_t h1 hF
    have h1_ := h1
    try simp at h1_
    refine AW.condT (by decide) (by first | (simp [h1, h1_]; done) | (simp [h1, h1_]; omega)) ?_
    refine AW.skip ?_
    refine hK167 _ _ _ ?_
    refine AW.midF (α := (List Bool)) (fun v4 => roster_of.J2 k v2 (fun v2_ v3_ => roster_of.L1 k v0 n1 v2_ v3_) v4 = some v1) (fun v4 => [(2, AV.ptr 0 0), (3, AV.ptr 1 0), (6, AV.lst false false (List.map (AV.int .i64) v0)), (7, AV.int .i64 (v0.length : Int)), (8, AV.int .i64 v2)]) (fun v4 => [(0, .cells (List.map AV.bool (List.replicate 64 false))), (1, .cells (List.map AV.bool v4))]) 2 (fun K172 hK172 => ?_) ?_
    · refine AW.block ?_
      refine AW.seqR mixed [] [none, none, none] (by kernel_rfl) fun G173 R173 hG173 hR173 => ?_
      obtain ⟨v5, h2, h3, h4, hF⟩ := idx_elim hF
      have h4_ := get_of h4
      try simp at h4_
      have h3_ := h3
      try simp at h3_
      try simp [h1, h1_, h2, h3, h4, h4_, h3_]
      repeat' apply And.intro
      any_goals (first | exact hG173 _ (by kernel_rfl) | refine hR173 _ _ _ ?_ | omega | (unfold maxLen; omega) | (simp [h1, h1_, h2, h3, h4, h4_, h3_]; done) | (simp [h1, h1_, h2, h3, h4, h4_, h3_]; omega))
      refine AW.wk [(2, AV.ptr 0 0), (3, AV.ptr 1 0), (5, AV.int .i64 v5), (6, AV.lst false false (List.map (AV.int .i64) v0)), (7, AV.int .i64 (v0.length : Int)), (8, AV.int .i64 v2)] [(0, .cells (List.map AV.bool (List.replicate 64 false))), (1, .cells (List.map AV.bool v3))] 2 (by simp [h1, h1_, h2, h3, h4, h4_, h3_]) (by simp [h1, h1_, h2, h3, h4, h4_, h3_]) (by simp) ?_
      refine AW.seqR mixed [] [none, none] (by kernel_rfl) fun G174 R174 hG174 hR174 => ?_
      try simp [h1, h1_, h2, h3, h4, h4_, h3_]
      repeat' apply And.intro
      try any_goals (first | omega | (unfold maxLen; omega) | (simp [h1, h1_, h2, h3, h4, h4_, h3_]; done))
      obtain ⟨v6, h5, hF⟩ := bnd1_elim hF
      refine aCall_l (w_roster_key k _ _ h5) (by simp) [] [] [] rfl (.cons (.same (by simp [h1, h1_, h2, h3, h4, h4_, h3_])) .nil) (by simp [h1, h1_, h2, h3, h4, h4_, h3_]) (by decide) (by simp) (by simp) (.inl rfl) (by simp) (by simp) ?_
      try simp [h1, h1_, h2, h3, h4, h4_, h3_]
      repeat' apply And.intro
      any_goals (first | exact hG174 _ (by kernel_rfl) | refine hR174 _ _ _ ?_ | omega | (unfold maxLen; omega) | (simp [h1, h1_, h2, h3, h4, h4_, h3_]; done) | (simp [h1, h1_, h2, h3, h4, h4_, h3_]; omega))
      refine AW.wk [(2, AV.ptr 0 0), (3, AV.ptr 1 0), (5, AV.int .i64 v5), (6, AV.lst false false (List.map (AV.int .i64) v0)), (7, AV.int .i64 (v0.length : Int)), (8, AV.int .i64 v2), (13, AV.bool v6)] [(0, .cells (List.map AV.bool (List.replicate 64 false))), (1, .cells (List.map AV.bool v3))] 2 (by simp [h1, h1_, h2, h3, h4, h4_, h3_]) (by simp [h1, h1_, h2, h3, h4, h4_, h3_]) (by simp) ?_
      by_cases h6 : v6 = true
      · replace hF := ite_t h6 hF
        have h6_ := h6
        try simp at h6_
        refine AW.condT (by decide) (by first | (simp [h1, h1_, h2, h3, h4, h4_, h3_, h6, h6_]; done) | (simp [h1, h1_, h2, h3, h4, h4_, h3_, h6, h6_]; omega)) ?_
        refine AW.region mixed [] [none, none, none] (by kernel_rfl) fun G175 R175 hG175 hR175 => ?_
        obtain ⟨⟨h7, h9, h8⟩, hF⟩ := chk_elim hF
        have h8_ := ne_of_lt h8
        try simp [h1, h1_, h2, h3, h4, h4_, h3_, h6, h6_, h7, h8, h9, h8_]
        repeat' apply And.intro
        any_goals (first | exact hG175 _ (by kernel_rfl) | refine hR175 _ _ _ ?_ | omega | (unfold maxLen; omega) | (simp [h1, h1_, h2, h3, h4, h4_, h3_, h6, h6_, h7, h8, h9, h8_]; done) | (simp [h1, h1_, h2, h3, h4, h4_, h3_, h6, h6_, h7, h8, h9, h8_]; omega))
        refine hK172 _ _ _ ?_
        refine Can.weak [(2, AV.ptr 0 0), (3, AV.ptr 1 0), (6, AV.lst false false (List.map (AV.int .i64) v0)), (7, AV.int .i64 (v0.length : Int)), (8, AV.int .i64 v2)] [(0, .cells (List.map AV.bool (List.replicate 64 false))), (1, .cells (List.map AV.bool (v3.set (v5).toNat true)))] 2 (by simp [h1, h1_, h2, h3, h4, h4_, h3_, h6, h6_, h7, h8, h9, h8_]) (by simp [h1, h1_, h2, h3, h4, h4_, h3_, h6, h6_, h7, h8, h9, h8_]) (by simp) ?_
        exact Can.join (v3.set (v5).toNat true) hF (by simp [h1, h1_, h2, h3, h4, h4_, h3_, h6, h6_, h7, h8, h9, h8_]) (by simp [h1, h1_, h2, h3, h4, h4_, h3_, h6, h6_, h7, h8, h9, h8_]) (by simp)
      · replace hF := ite_f h6 hF
        have h6_ := h6
        try simp at h6_
        refine AW.condF (by decide) (by first | (simp [h1, h1_, h2, h3, h4, h4_, h3_, h6, h6_]; done) | (simp [h1, h1_, h2, h3, h4, h4_, h3_, h6, h6_]; omega)) ?_
        refine AW.skip ?_
        refine hK172 _ _ _ ?_
        exact Can.join (v3) hF (by simp [h1, h1_, h2, h3, h4, h4_, h3_, h6, h6_]) (by simp [h1, h1_, h2, h3, h4, h4_, h3_, h6, h6_]) (by simp)
    · rintro v4 hF
      try dsimp only at hF
      unfold roster_of.J2 at hF
      refine AW.region mixed [] [none, none] (by kernel_rfl) fun G171 R171 hG171 hR171 => ?_
      try simp [h1, h1_]
      repeat' apply And.intro
      any_goals (first | exact hG171 _ (by kernel_rfl) | refine hR171 _ _ _ ?_ | omega | (unfold maxLen; omega) | (simp [h1, h1_]; done) | (simp [h1, h1_]; omega))
      refine hK165 _ _ _ ?_
      refine Can.weak [(2, AV.ptr 0 0), (3, AV.ptr 1 0), (6, AV.lst false false (List.map (AV.int .i64) v0)), (7, AV.int .i64 (v0.length : Int)), (8, AV.int .i64 (IntKind.wrap .i64 (v2 + 1)))] [(0, .cells (List.map AV.bool (List.replicate 64 false))), (1, .cells (List.map AV.bool v4))] 2 (by simp [h1, h1_]) (by simp [h1, h1_]) (by simp) ?_
      exact Can.next (k' := n1) ((IntKind.wrap .i64 (v2 + 1), v4)) (by omega) hF (by simp [h1, h1_]) (by simp [h1, h1_]) (by simp)
  · replace hF := ite_f h1 hF
    have h1_ := h1
    try simp at h1_
    refine AW.condF (by decide) (by first | (simp [h1, h1_]; done) | (simp [h1, h1_]; omega)) ?_
    refine AW.exit ?_
    try simp
    refine hK133 _ _ _ ?_
    refine AW.seqR mixed [] [none, none] (by kernel_rfl) fun G176 R176 hG176 hR176 => ?_
    -- array load
    obtain ⟨h10, hF⟩ := chk_elim hF
    have h10_ := ne_of_len h10 (by decide)
    obtain ⟨h11, hF⟩ := chk_elim hF
    try simp [h1, h1_, h10, h10_, h11]
    repeat' apply And.intro
    any_goals (first | exact hG176 _ (by kernel_rfl) | refine hR176 _ _ _ ?_ | omega | (unfold maxLen; omega) | (simp [h1, h1_, h10, h10_, h11]; done) | (simp [h1, h1_, h10, h10_, h11]; omega))
    refine AW.wk [(2, AV.ptr 0 0)] [(0, .cells (List.map AV.bool v3))] 2 (by simp [h1, h1_, h10, h10_, h11]) (by simp [h1, h1_, h10, h10_, h11]) (by simp) ?_
    obtain ⟨h12, hF⟩ := chk_elim hF
    have h12_ := ne_of_len h12 (by decide)
    simp only [Option.some.injEq] at hF
    subst hF
    refine AW.ret (hQ _ _ _ ?_ (matchO_0 ?_)).1
    · simp [Try.f98, h1, h1_, h10, h10_, h11, h12, h12_]
    · simp [h1, h1_, h10, h10_, h11, h12, h12_]
set_option maxHeartbeats 4000000 in
theorem w_roster_Valid (k : Nat) (v0 : (List Int)) (v1 : Bool) (hF : roster_Valid k v0 = some v1) :
    FCall Try.prog 67 [AV.lst false false (List.map (AV.int .i64) v0)] [] (AV.bool v1) [] := by
  unfold roster_Valid at hF
  refine FCall.enter Try.func67 rfl (by simp) (by decide) (by simp) (by simp) (by simp) (by simp) (by simp) ?_
  intro c0 w0 Q h0 hQ
  refine AW.wk [(0, AV.lst false false (List.map (AV.int .i64) v0))] [] 0 (by simp) (by simp) (by simp) ?_
  refine AW.seqR mixed [] [none] (by kernel_rfl) fun G96 R96 hG96 hR96 => ?_
  try simp
  repeat' apply And.intro
  any_goals (first | exact hG96 _ (by kernel_rfl) | refine hR96 _ _ _ ?_ | omega | (unfold maxLen; omega) | (simp; done) | (simp; omega))
  refine AW.wk [(0, AV.lst false false (List.map (AV.int .i64) v0))] [] 0 (by simp) (by simp) (by simp) ?_
  refine AW.seq fun K143 hK143 => ?_
  refine AW.seqR mixed [] [none, none, none] (by kernel_rfl) fun G144 R144 hG144 hR144 => ?_
  try simp
  repeat' apply And.intro
  any_goals (first | exact hG144 _ (by kernel_rfl) | refine hR144 _ _ _ ?_ | omega | (unfold maxLen; omega) | (simp; done) | (simp; omega))
  refine AW.wk [(0, AV.lst false false (List.map (AV.int .i64) v0)), (5, AV.lst false false (List.map (AV.int .i64) v0)), (6, AV.int .i64 (v0.length : Int)), (7, AV.int .i64 0)] [] 0 (by simp) (by simp) (by simp) ?_
  refine AW.block ?_
  refine AW.loopF (α := Int) (fun n v2 => roster_Valid.L1 k v0 n v2 = some v1) (fun v2 => [(0, AV.lst false false (List.map (AV.int .i64) v0)), (5, AV.lst false false (List.map (AV.int .i64) v0)), (6, AV.int .i64 (v0.length : Int)), (7, AV.int .i64 v2)]) (fun v2 => []) 0 k (0) hF (by simp) (by simp) (by simp) ?_
  rintro (_|n1) v2 hF K177 hK177
  · try dsimp only at hF
    rw [roster_Valid.L1] at hF; cases hF
  try dsimp only at hF
  rw [roster_Valid.L1] at hF
  refine AW.seqR mixed [] [none] (by kernel_rfl) fun G178 R178 hG178 hR178 => ?_
  try simp
  repeat' apply And.intro
  any_goals (first | exact hG178 _ (by kernel_rfl) | refine hR178 _ _ _ ?_ | omega | (unfold maxLen; omega) | (simp; done) | (simp; omega))
  refine AW.wk [(0, AV.lst false false (List.map (AV.int .i64) v0)), (5, AV.lst false false (List.map (AV.int .i64) v0)), (6, AV.int .i64 (v0.length : Int)), (7, AV.int .i64 v2), (8, AV.bool (decide (v2 < (v0.length : Int))))] [] 0 (by simp) (by simp) (by simp) ?_
  refine AW.seq fun K179 hK179 => ?_
  by_cases h1 : v2 < (v0.length : Int)
  · replace hF := ite_t h1 hF
    have h1_ := h1
    try simp at h1_
    refine AW.condT (by decide) (by first | (simp [h1, h1_]; done) | (simp [h1, h1_]; omega)) ?_
    refine AW.skip ?_
    refine hK179 _ _ _ ?_
    refine AW.midF (α := Unit) (fun _ => roster_Valid.J2 k v2 (fun v2_ => roster_Valid.L1 k v0 n1 v2_) = some v1) (fun _ => [(0, AV.lst false false (List.map (AV.int .i64) v0)), (5, AV.lst false false (List.map (AV.int .i64) v0)), (6, AV.int .i64 (v0.length : Int)), (7, AV.int .i64 v2)]) (fun _ => []) 0 (fun K185 hK185 => ?_) ?_
    · refine AW.block ?_
      refine AW.seqR mixed [] [none, none, none, none, none] (by kernel_rfl) fun G186 R186 hG186 hR186 => ?_
      obtain ⟨v3, h2, h3, h4, hF⟩ := idx_elim hF
      have h4_ := get_of h4
      try simp at h4_
      have h3_ := h3
      try simp at h3_
      try simp [h1, h1_, h2, h3, h4, h4_, h3_]
      repeat' apply And.intro
      any_goals (first | exact hG186 _ (by kernel_rfl) | refine hR186 _ _ _ ?_ | omega | (unfold maxLen; omega) | (simp [h1, h1_, h2, h3, h4, h4_, h3_]; done) | (simp [h1, h1_, h2, h3, h4, h4_, h3_]; omega))
      refine AW.wk [(0, AV.lst false false (List.map (AV.int .i64) v0)), (3, AV.int .i64 v2), (4, AV.int .i64 v3), (5, AV.lst false false (List.map (AV.int .i64) v0)), (6, AV.int .i64 (v0.length : Int)), (7, AV.int .i64 v2)] [] 0 (by simp [h1, h1_, h2, h3, h4, h4_, h3_]) (by simp [h1, h1_, h2, h3, h4, h4_, h3_]) (by simp) ?_
      refine AW.seqR mixed [] [none, none, none, none, some (15, false), some (15, false), some (15, false), some (18, true), some (18, true), some (18, true), some (18, true), some (18, true), some (18, true), some (18, true), some (15, false), none] (by kernel_rfl) fun G187 R187 hG187 hR187 => ?_
      try simp [h1, h1_, h2, h3, h4, h4_, h3_]
      repeat' apply And.intro
      try any_goals (first | omega | (unfold maxLen; omega) | (simp [h1, h1_, h2, h3, h4, h4_, h3_]; done))
      obtain ⟨v4, h5, hF⟩ := bnd1_elim hF
      refine aCall_l (w_roster_key k _ _ h5) (by simp) [] [] [] rfl (.cons (.same (by simp [h1, h1_, h2, h3, h4, h4_, h3_])) .nil) (by simp [h1, h1_, h2, h3, h4, h4_, h3_]) (by decide) (by simp) (by simp) (.inl rfl) (by simp) (by simp) ?_
      by_cases h6 : (!v4) = true
      · replace hF := ite_t h6 hF
        have h6_ := h6
        try simp at h6_
        try simp [h1, h1_, h2, h3, h4, h4_, h3_, h6, h6_]
        repeat' apply And.intro
        any_goals (first | exact hG187 _ (by kernel_rfl) | refine hR187 _ _ _ ?_ | omega | (unfold maxLen; omega) | (simp [h1, h1_, h2, h3, h4, h4_, h3_, h6, h6_]; done) | (simp [h1, h1_, h2, h3, h4, h4_, h3_, h6, h6_]; omega))
        refine AW.wk [(0, AV.lst false false (List.map (AV.int .i64) v0)), (5, AV.lst false false (List.map (AV.int .i64) v0)), (6, AV.int .i64 (v0.length : Int)), (7, AV.int .i64 v2), (27, AV.bool true)] [] 0 (by simp [h1, h1_, h2, h3, h4, h4_, h3_, h6, h6_]) (by simp [h1, h1_, h2, h3, h4, h4_, h3_, h6, h6_]) (by simp) ?_
        refine AW.condT (by decide) (by simp [h1, h1_, h2, h3, h4, h4_, h3_, h6, h6_]) ?_
        refine AW.seqR mixed [] [none] (by kernel_rfl) fun G188 R188 hG188 hR188 => ?_
        try simp [h1, h1_, h2, h3, h4, h4_, h3_, h6, h6_]
        repeat' apply And.intro
        any_goals (first | exact hG188 _ (by kernel_rfl) | refine hR188 _ _ _ ?_ | omega | (unfold maxLen; omega) | (simp [h1, h1_, h2, h3, h4, h4_, h3_, h6, h6_]; done) | (simp [h1, h1_, h2, h3, h4, h4_, h3_, h6, h6_]; omega))
        refine AW.wk [(2, AV.bool false)] [] 0 (by simp [h1, h1_, h2, h3, h4, h4_, h3_, h6, h6_]) (by simp [h1, h1_, h2, h3, h4, h4_, h3_, h6, h6_]) (by simp) ?_
        simp only [Option.some.injEq] at hF
        subst hF
        refine AW.ret (hQ _ _ _ ?_ (matchO_0 ?_)).1
        · simp [Try.f67, h1, h1_, h2, h3, h4, h4_, h3_, h6, h6_]
        · simp [h1, h1_, h2, h3, h4, h4_, h3_, h6, h6_]
      · replace hF := ite_f h6 hF
        have h6_ := h6
        try simp at h6_
        by_cases h7 : 0 < v2
        · replace hF := ite_t h7 hF
          have h7_ := h7
          try simp at h7_
          obtain ⟨v5, h8, h9, h10, hF⟩ := idx_elim hF
          have h10_ := get_of h10
          try simp at h10_
          have h9_ := h9
          try simp at h9_
          try simp [h1, h1_, h2, h3, h4, h4_, h3_, h6, h6_, h7, h7_, h8, h9, h10, h10_, h9_]
          repeat' apply And.intro
          any_goals (first | exact hG187 _ (by kernel_rfl) | refine hR187 _ _ _ ?_ | omega | (unfold maxLen; omega) | (simp [h1, h1_, h2, h3, h4, h4_, h3_, h6, h6_, h7, h7_, h8, h9, h10, h10_, h9_]; done) | (simp [h1, h1_, h2, h3, h4, h4_, h3_, h6, h6_, h7, h7_, h8, h9, h10, h10_, h9_]; omega))
          refine AW.wk [(0, AV.lst false false (List.map (AV.int .i64) v0)), (5, AV.lst false false (List.map (AV.int .i64) v0)), (6, AV.int .i64 (v0.length : Int)), (7, AV.int .i64 v2), (27, AV.bool (decide (v3 ≤ v5)))] [] 0 (by simp [h1, h1_, h2, h3, h4, h4_, h3_, h6, h6_, h7, h7_, h8, h9, h10, h10_, h9_]) (by simp [h1, h1_, h2, h3, h4, h4_, h3_, h6, h6_, h7, h7_, h8, h9, h10, h10_, h9_]) (by simp) ?_
          by_cases h11 : v3 ≤ v5
          · replace hF := ite_t h11 hF
            have h11_ := h11
            try simp at h11_
            refine AW.condT (by decide) (by first | (simp [h1, h1_, h2, h3, h4, h4_, h3_, h6, h6_, h7, h7_, h8, h9, h10, h10_, h9_, h11, h11_]; done) | (simp [h1, h1_, h2, h3, h4, h4_, h3_, h6, h6_, h7, h7_, h8, h9, h10, h10_, h9_, h11, h11_]; omega)) ?_
            refine AW.seqR mixed [] [none] (by kernel_rfl) fun G189 R189 hG189 hR189 => ?_
            try simp [h1, h1_, h2, h3, h4, h4_, h3_, h6, h6_, h7, h7_, h8, h9, h10, h10_, h9_, h11, h11_]
            repeat' apply And.intro
            any_goals (first | exact hG189 _ (by kernel_rfl) | refine hR189 _ _ _ ?_ | omega | (unfold maxLen; omega) | (simp [h1, h1_, h2, h3, h4, h4_, h3_, h6, h6_, h7, h7_, h8, h9, h10, h10_, h9_, h11, h11_]; done) | (simp [h1, h1_, h2, h3, h4, h4_, h3_, h6, h6_, h7, h7_, h8, h9, h10, h10_, h9_, h11, h11_]; omega))
            refine AW.wk [(2, AV.bool false)] [] 0 (by simp [h1, h1_, h2, h3, h4, h4_, h3_, h6, h6_, h7, h7_, h8, h9, h10, h10_, h9_, h11, h11_]) (by simp [h1, h1_, h2, h3, h4, h4_, h3_, h6, h6_, h7, h7_, h8, h9, h10, h10_, h9_, h11, h11_]) (by simp) ?_
            simp only [Option.some.injEq] at hF
            subst hF
            refine AW.ret (hQ _ _ _ ?_ (matchO_0 ?_)).1
            · simp [Try.f67, h1, h1_, h2, h3, h4, h4_, h3_, h6, h6_, h7, h7_, h8, h9, h10, h10_, h9_, h11, h11_]
            · simp [h1, h1_, h2, h3, h4, h4_, h3_, h6, h6_, h7, h7_, h8, h9, h10, h10_, h9_, h11, h11_]
          · replace hF := ite_f h11 hF
            have h11_ := h11
            try simp at h11_
            refine AW.condF (by decide) (by first | (simp [h1, h1_, h2, h3, h4, h4_, h3_, h6, h6_, h7, h7_, h8, h9, h10, h10_, h9_, h11, h11_]; done) | (simp [h1, h1_, h2, h3, h4, h4_, h3_, h6, h6_, h7, h7_, h8, h9, h10, h10_, h9_, h11, h11_]; omega)) ?_
            refine AW.skip ?_
            refine hK185 _ _ _ ?_
            exact Can.join (()) hF (by simp [h1, h1_, h2, h3, h4, h4_, h3_, h6, h6_, h7, h7_, h8, h9, h10, h10_, h9_, h11, h11_]) (by simp [h1, h1_, h2, h3, h4, h4_, h3_, h6, h6_, h7, h7_, h8, h9, h10, h10_, h9_, h11, h11_]) (by simp)
        · replace hF := ite_f h7 hF
          have h7_ := h7
          try simp at h7_
          try simp [h1, h1_, h2, h3, h4, h4_, h3_, h6, h6_, h7, h7_]
          repeat' apply And.intro
          any_goals (first | exact hG187 _ (by kernel_rfl) | refine hR187 _ _ _ ?_ | omega | (unfold maxLen; omega) | (simp [h1, h1_, h2, h3, h4, h4_, h3_, h6, h6_, h7, h7_]; done) | (simp [h1, h1_, h2, h3, h4, h4_, h3_, h6, h6_, h7, h7_]; omega))
          refine AW.wk [(0, AV.lst false false (List.map (AV.int .i64) v0)), (5, AV.lst false false (List.map (AV.int .i64) v0)), (6, AV.int .i64 (v0.length : Int)), (7, AV.int .i64 v2), (27, AV.bool false)] [] 0 (by simp [h1, h1_, h2, h3, h4, h4_, h3_, h6, h6_, h7, h7_]) (by simp [h1, h1_, h2, h3, h4, h4_, h3_, h6, h6_, h7, h7_]) (by simp) ?_
          refine AW.condF (by decide) (by simp [h1, h1_, h2, h3, h4, h4_, h3_, h6, h6_, h7, h7_]) ?_
          refine AW.skip ?_
          refine hK185 _ _ _ ?_
          exact Can.join (()) hF (by simp [h1, h1_, h2, h3, h4, h4_, h3_, h6, h6_, h7, h7_]) (by simp [h1, h1_, h2, h3, h4, h4_, h3_, h6, h6_, h7, h7_]) (by simp)
    · rintro ⟨⟩ hF
      try dsimp only at hF
      unfold roster_Valid.J2 at hF
      refine AW.region mixed [] [none, none] (by kernel_rfl) fun G184 R184 hG184 hR184 => ?_
      try simp [h1, h1_]
      repeat' apply And.intro
      any_goals (first | exact hG184 _ (by kernel_rfl) | refine hR184 _ _ _ ?_ | omega | (unfold maxLen; omega) | (simp [h1, h1_]; done) | (simp [h1, h1_]; omega))
      refine hK177 _ _ _ ?_
      refine Can.weak [(0, AV.lst false false (List.map (AV.int .i64) v0)), (5, AV.lst false false (List.map (AV.int .i64) v0)), (6, AV.int .i64 (v0.length : Int)), (7, AV.int .i64 (IntKind.wrap .i64 (v2 + 1)))] [] 0 (by simp [h1, h1_]) (by simp [h1, h1_]) (by simp) ?_
      exact Can.next (k' := n1) (IntKind.wrap .i64 (v2 + 1)) (by omega) hF (by simp [h1, h1_]) (by simp [h1, h1_]) (by simp)
  · replace hF := ite_f h1 hF
    have h1_ := h1
    try simp at h1_
    refine AW.condF (by decide) (by first | (simp [h1, h1_]; done) | (simp [h1, h1_]; omega)) ?_
    refine AW.exit ?_
    try simp
    refine hK143 _ _ _ ?_
    refine AW.seqR mixed [] [none, none, none, none, none] (by kernel_rfl) fun G190 R190 hG190 hR190 => ?_
    try simp [h1, h1_]
    repeat' apply And.intro
    try any_goals (first | omega | (unfold maxLen; omega) | (simp [h1, h1_]; done))
    obtain ⟨v6, h12, hF⟩ := bnd1_elim hF
    refine aCall_l (w_roster_of k _ _ h12) (by simp) [] [] [] rfl (.cons (.same (by simp [h1, h1_])) .nil) (by simp [h1, h1_]) (by decide) (by simp) (by simp) (.inl rfl) (by simp) (by simp) ?_
    obtain ⟨h13, hF⟩ := chk_elim hF
    try simp [h1, h1_, h13]
    repeat' apply And.intro
    any_goals (first | exact hG190 _ (by kernel_rfl) | refine hR190 _ _ _ ?_ | omega | (unfold maxLen; omega) | (simp [h1, h1_, h13]; done) | (simp [h1, h1_, h13]; omega))
    refine AW.wk [(2, AV.bool (v6 != (List.replicate 64 false)))] [] 0 (by simp [h1, h1_, h13]) (by simp [h1, h1_, h13]) (by simp) ?_
    simp only [Option.some.injEq] at hF
    subst hF
    refine AW.ret (hQ _ _ _ ?_ (matchO_0 ?_)).1
    · simp [Try.f67, h1, h1_, h13]
    · simp [h1, h1_, h13]
set_option maxHeartbeats 4000000 in
theorem w_roster_Encode (k : Nat) (v0 : (List Int)) (v1 : (List Int)) (v2 : Int) (hF : roster_Encode k v0 = some (v1, v2)) :
    FCall Try.prog 62 [AV.lst false false (List.map (AV.int .i64) v0)] [] (AV.tup [AV.lst false false (List.map (AV.int .i64) v1), AV.int .i64 v2]) [] := by
  unfold roster_Encode at hF
  refine FCall.enter Try.func62 rfl (by simp) (by decide) (by simp) (by simp) (by simp) (by simp) (by simp) ?_
  intro c0 w0 Q h0 hQ
  refine AW.wk [(0, AV.lst false false (List.map (AV.int .i64) v0))] [] 0 (by simp) (by simp) (by simp) ?_
  refine AW.seqR mixed [] [none, none] (by kernel_rfl) fun G78 R78 hG78 hR78 => ?_
  try simp
  repeat' apply And.intro
  any_goals (first | exact hG78 _ (by kernel_rfl) | refine hR78 _ _ _ ?_ | omega | (unfold maxLen; omega) | (simp; done) | (simp; omega))
  refine AW.wk [(0, AV.lst false false (List.map (AV.int .i64) v0))] [] 0 (by simp) (by simp) (by simp) ?_
  refine AW.seq fun K81 hK81 => ?_
  refine AW.seqR mixed [] [none, none, none] (by kernel_rfl) fun G82 R82 hG82 hR82 => ?_
  try simp
  repeat' apply And.intro
  try any_goals (first | omega | (unfold maxLen; omega) | (simp; done))
  obtain ⟨v3, h1, hF⟩ := bnd1_elim hF
  refine aCall_l (w_roster_Valid k _ _ h1) (by simp) [] [] [] rfl (.cons (.same (by simp)) .nil) (by simp) (by decide) (by simp) (by simp) (.inl rfl) (by simp) (by simp) ?_
  try simp
  repeat' apply And.intro
  any_goals (first | exact hG82 _ (by kernel_rfl) | refine hR82 _ _ _ ?_ | omega | (unfold maxLen; omega) | (simp; done) | (simp; omega))
  refine AW.wk [(0, AV.lst false false (List.map (AV.int .i64) v0)), (9, AV.bool (!v3))] [] 0 (by simp) (by simp) (by simp) ?_
  by_cases h2 : (!v3) = true
  · replace hF := ite_t h2 hF
    have h2_ := h2
    try simp at h2_
    refine AW.condT (by decide) (by first | (simp [h2, h2_]; done) | (simp [h2, h2_]; omega)) ?_
    refine AW.seqR mixed [] [none, none] (by kernel_rfl) fun G83 R83 hG83 hR83 => ?_
    try simp [h2, h2_]
    repeat' apply And.intro
    any_goals (first | exact hG83 _ (by kernel_rfl) | refine hR83 _ _ _ ?_ | omega | (unfold maxLen; omega) | (simp [h2, h2_]; done) | (simp [h2, h2_]; omega))
    refine AW.wk [(2, AV.lst true true (List.map (AV.int .i64) ([] : List Int))), (3, AV.int .i64 43)] [] 0 (by simp [h2, h2_]) (by simp [h2, h2_]) (by simp) ?_
    refine AW.flg [(2, AV.lst false false (List.map (AV.int .i64) ([] : List Int)))] [] ⟨(.lst (by simp)), trivial⟩ trivial (by simp) ?_
    simp only [Option.some.injEq, Prod.mk.injEq] at hF
    obtain ⟨e0, e1⟩ := hF
    subst e0 e1
    refine AW.ret (hQ _ _ _ ?_ (matchO_0 ?_)).1
    · simp [Try.f62, h2, h2_]
    · simp [h2, h2_]
  · replace hF := ite_f h2 hF
    have h2_ := h2
    try simp at h2_
    refine AW.condF (by decide) (by first | (simp [h2, h2_]; done) | (simp [h2, h2_]; omega)) ?_
    refine AW.skip ?_
    refine hK81 _ _ _ ?_
    refine AW.seqR mixed [10] [none, none] (by kernel_rfl) fun G84 R84 hG84 hR84 => ?_
    try simp [h2, h2_]
    repeat' apply And.intro
    any_goals (first | exact hG84 _ (by kernel_rfl) | refine hR84 _ _ _ ?_ | omega | (unfold maxLen; omega) | (simp [h2, h2_]; done) | (simp [h2, h2_]; omega))
    refine AW.wk [(0, AV.lst false false (List.map (AV.int .i64) v0)), (4, AV.slc 0 0 1 (([0, 0] : List Int).length) true)] [(0, .cells (List.map (AV.int .i64) ([0, 0] : List Int)))] 1 (by simp [h2, h2_]) (by simp [h2, h2_]) (by simp) ?_
    refine AW.seq fun K119 hK119 => ?_
    refine AW.seqR mixed [] [none, none, none] (by kernel_rfl) fun G120 R120 hG120 hR120 => ?_
    try simp [h2, h2_]
    repeat' apply And.intro
    any_goals (first | exact hG120 _ (by kernel_rfl) | refine hR120 _ _ _ ?_ | omega | (unfold maxLen; omega) | (simp [h2, h2_]; done) | (simp [h2, h2_]; omega))
    refine AW.wk [(4, AV.slc 0 0 1 (([0, 0] : List Int).length) true), (11, AV.lst false false (List.map (AV.int .i64) v0)), (12, AV.int .i64 (v0.length : Int)), (13, AV.int .i64 0)] [(0, .cells (List.map (AV.int .i64) ([0, 0] : List Int)))] 1 (by simp [h2, h2_]) (by simp [h2, h2_]) (by simp) ?_
    refine AW.block ?_
    refine AW.loopF (α := (Int × (List Int))) (fun n (v4, v5) => roster_Encode.L1 k v0 n v4 v5 = some (v1, v2)) (fun (v4, v5) => [(4, AV.slc 0 0 1 v5.length true), (11, AV.lst false false (List.map (AV.int .i64) v0)), (12, AV.int .i64 (v0.length : Int)), (13, AV.int .i64 v4)]) (fun (v4, v5) => [(0, .cells (List.map (AV.int .i64) v5))]) 1 k ((0, ([0, 0] : List Int))) hF (by simp [h2, h2_]) (by simp [h2, h2_]) (by simp) ?_
    rintro (_|n1) ⟨v4, v5⟩ hF K145 hK145
    · try dsimp only at hF
      rw [roster_Encode.L1] at hF; cases hF
    try dsimp only at hF
    rw [roster_Encode.L1] at hF
    refine AW.seqR mixed [] [none] (by kernel_rfl) fun G146 R146 hG146 hR146 => ?_
    try simp [h2, h2_]
    repeat' apply And.intro
    any_goals (first | exact hG146 _ (by kernel_rfl) | refine hR146 _ _ _ ?_ | omega | (unfold maxLen; omega) | (simp [h2, h2_]; done) | (simp [h2, h2_]; omega))
    refine AW.wk [(4, AV.slc 0 0 1 v5.length true), (11, AV.lst false false (List.map (AV.int .i64) v0)), (12, AV.int .i64 (v0.length : Int)), (13, AV.int .i64 v4), (14, AV.bool (decide (v4 < (v0.length : Int))))] [(0, .cells (List.map (AV.int .i64) v5))] 1 (by simp [h2, h2_]) (by simp [h2, h2_]) (by simp) ?_
    refine AW.seq fun K147 hK147 => ?_
    by_cases h3 : v4 < (v0.length : Int)
    · replace hF := ite_t h3 hF
      have h3_ := h3
      try simp at h3_
      refine AW.condT (by decide) (by first | (simp [h2, h2_, h3, h3_]; done) | (simp [h2, h2_, h3, h3_]; omega)) ?_
      refine AW.skip ?_
      refine hK147 _ _ _ ?_
      refine AW.seq fun K150 hK150 => ?_
      refine AW.block ?_
      refine AW.seqR mixed [] [none, none, none] (by kernel_rfl) fun G151 R151 hG151 hR151 => ?_
      obtain ⟨v6, h4, h5, h6, hF⟩ := idx_elim hF
      have h6_ := get_of h6
      try simp at h6_
      have h5_ := h5
      try simp at h5_
      try simp [h2, h2_, h3, h3_, h4, h5, h6, h6_, h5_]
      repeat' apply And.intro
      any_goals (first | exact hG151 _ (by kernel_rfl) | refine hR151 _ _ _ ?_ | omega | (unfold maxLen; omega) | (simp [h2, h2_, h3, h3_, h4, h5, h6, h6_, h5_]; done) | (simp [h2, h2_, h3, h3_, h4, h5, h6, h6_, h5_]; omega))
      refine AW.wk [(4, AV.slc 0 0 1 v5.length true), (6, AV.int .i64 v6), (11, AV.lst false false (List.map (AV.int .i64) v0)), (12, AV.int .i64 (v0.length : Int)), (13, AV.int .i64 v4)] [(0, .cells (List.map (AV.int .i64) v5))] 1 (by simp [h2, h2_, h3, h3_, h4, h5, h6, h6_, h5_]) (by simp [h2, h2_, h3, h3_, h4, h5, h6, h6_, h5_]) (by simp) ?_
      refine AW.region mixed [] [none, none, none, none, none, none, none, none, none, none, none] (by kernel_rfl) fun G152 R152 hG152 hR152 => ?_
      obtain ⟨⟨h7, h8⟩, hF⟩ := chk_elim hF
      have h8_ := ne_of_lt h8
      obtain ⟨v7, h9, h10, h11, hF⟩ := idx_elim hF
      have h11_ := get_of h11
      try simp at h11_
      have h10_ := h10
      try simp at h10_
      obtain ⟨h12, hF⟩ := chk_elim hF
      obtain ⟨⟨h13, h14⟩, hF⟩ := chk_elim hF
      have h14_ := ne_of_lt h14
      try simp [h2, h2_, h3, h3_, h4, h5, h6, h6_, h5_, h7, h8, h8_, h9, h10, h11, h11_, h10_, h12, h13, h14, h14_]
      repeat' apply And.intro
      any_goals (first | exact hG152 _ (by kernel_rfl) | refine hR152 _ _ _ ?_ | omega | (unfold maxLen; omega) | (simp [h2, h2_, h3, h3_, h4, h5, h6, h6_, h5_, h7, h8, h8_, h9, h10, h11, h11_, h10_, h12, h13, h14, h14_]; done) | (simp [h2, h2_, h3, h3_, h4, h5, h6, h6_, h5_, h7, h8, h8_, h9, h10, h11, h11_, h10_, h12, h13, h14, h14_]; omega))
      refine hK150 _ _ _ ?_
      refine AW.wk [(4, AV.slc 0 0 1 ((v5.set (IntKind.wrap .i64 (Int.tdiv v6 32)).toNat (bitsV .or .i64 v7 (IntKind.wrap .i64 (1 * 2 ^ (min ((Int.tmod v6 32).toNat) 64))))).length) true), (11, AV.lst false false (List.map (AV.int .i64) v0)), (12, AV.int .i64 (v0.length : Int)), (13, AV.int .i64 v4)] [(0, .cells (List.map (AV.int .i64) (v5.set (IntKind.wrap .i64 (Int.tdiv v6 32)).toNat (bitsV .or .i64 v7 (IntKind.wrap .i64 (1 * 2 ^ (min ((Int.tmod v6 32).toNat) 64)))))))] 1 (by simp [h2, h2_, h3, h3_, h4, h5, h6, h6_, h5_, h7, h8, h8_, h9, h10, h11, h11_, h10_, h12, h13, h14, h14_]) (by simp [h2, h2_, h3, h3_, h4, h5, h6, h6_, h5_, h7, h8, h8_, h9, h10, h11, h11_, h10_, h12, h13, h14, h14_]) (by simp) ?_
      refine AW.region mixed [] [none, none] (by kernel_rfl) fun G153 R153 hG153 hR153 => ?_
      try simp [h2, h2_, h3, h3_, h4, h5, h6, h6_, h5_, h7, h8, h8_, h9, h10, h11, h11_, h10_, h12, h13, h14, h14_]
      repeat' apply And.intro
      any_goals (first | exact hG153 _ (by kernel_rfl) | refine hR153 _ _ _ ?_ | omega | (unfold maxLen; omega) | (simp [h2, h2_, h3, h3_, h4, h5, h6, h6_, h5_, h7, h8, h8_, h9, h10, h11, h11_, h10_, h12, h13, h14, h14_]; done) | (simp [h2, h2_, h3, h3_, h4, h5, h6, h6_, h5_, h7, h8, h8_, h9, h10, h11, h11_, h10_, h12, h13, h14, h14_]; omega))
      refine hK145 _ _ _ ?_
      refine Can.weak [(4, AV.slc 0 0 1 ((v5.set (IntKind.wrap .i64 (Int.tdiv v6 32)).toNat (bitsV .or .i64 v7 (IntKind.wrap .i64 (1 * 2 ^ (min ((Int.tmod v6 32).toNat) 64))))).length) true), (11, AV.lst false false (List.map (AV.int .i64) v0)), (12, AV.int .i64 (v0.length : Int)), (13, AV.int .i64 (IntKind.wrap .i64 (v4 + 1)))] [(0, .cells (List.map (AV.int .i64) (v5.set (IntKind.wrap .i64 (Int.tdiv v6 32)).toNat (bitsV .or .i64 v7 (IntKind.wrap .i64 (1 * 2 ^ (min ((Int.tmod v6 32).toNat) 64)))))))] 1 (by simp [h2, h2_, h3, h3_, h4, h5, h6, h6_, h5_, h7, h8, h8_, h9, h10, h11, h11_, h10_, h12, h13, h14, h14_]) (by simp [h2, h2_, h3, h3_, h4, h5, h6, h6_, h5_, h7, h8, h8_, h9, h10, h11, h11_, h10_, h12, h13, h14, h14_]) (by simp) ?_
      exact Can.next (k' := n1) ((IntKind.wrap .i64 (v4 + 1), v5.set (IntKind.wrap .i64 (Int.tdiv v6 32)).toNat (bitsV .or .i64 v7 (IntKind.wrap .i64 (1 * 2 ^ (min ((Int.tmod v6 32).toNat) 64)))))) (by omega) hF (by simp [h2, h2_, h3, h3_, h4, h5, h6, h6_, h5_, h7, h8, h8_, h9, h10, h11, h11_, h10_, h12, h13, h14, h14_]) (by simp [h2, h2_, h3, h3_, h4, h5, h6, h6_, h5_, h7, h8, h8_, h9, h10, h11, h11_, h10_, h12, h13, h14, h14_]) (by simp)
    · replace hF := ite_f h3 hF
      have h3_ := h3
      try simp at h3_
      refine AW.condF (by decide) (by first | (simp [h2, h2_, h3, h3_]; done) | (simp [h2, h2_, h3, h3_]; omega)) ?_
      refine AW.exit ?_
      try simp
      refine hK119 _ _ _ ?_
      refine AW.seqR mixed [] [none, none, none] (by kernel_rfl) fun G154 R154 hG154 hR154 => ?_
      try simp [h2, h2_, h3, h3_]
      repeat' apply And.intro
      any_goals (first | exact hG154 _ (by kernel_rfl) | refine hR154 _ _ _ ?_ | omega | (unfold maxLen; omega) | (simp [h2, h2_, h3, h3_]; done) | (simp [h2, h2_, h3, h3_]; omega))
      refine AW.wk [(2, AV.slc 0 0 1 v5.length true), (3, AV.int .i64 0)] [(0, .cells (List.map (AV.int .i64) v5))] 1 (by simp [h2, h2_, h3, h3_]) (by simp [h2, h2_, h3, h3_]) (by simp) ?_
      refine AW.wk [(2, AV.slc 0 0 1 v5.length true), (3, AV.int .i64 0)] [(0, .cells (List.map (AV.int .i64) v5))] 1 (by simp [h2, h2_, h3, h3_]) (by simp [h2, h2_, h3, h3_]) (by simp) ?_
      refine AW.frz 0 (o := .cells (List.map (AV.int .i64) v5)) (by simp [h2, h2_, h3, h3_]) rfl [(2, AV.lst false true (List.map (AV.int .i64) v5))] [] ⟨(.l (by simp) (by simp) (by simp) (by simp)), trivial⟩ trivial ?_
      refine AW.flg [(2, AV.lst false false (List.map (AV.int .i64) v5))] [] ⟨(.lst (by simp)), trivial⟩ trivial (by simp) ?_
      simp only [Option.some.injEq, Prod.mk.injEq] at hF
      obtain ⟨e0, e1⟩ := hF
      subst e0 e1
      refine AW.ret (hQ _ _ _ ?_ (matchO_0 ?_)).1
      · simp [Try.f62, h2, h2_, h3, h3_]
      · simp [h2, h2_, h3, h3_]
set_option maxHeartbeats 4000000 in
theorem w_roster_Decode_1 (k : Nat) (v0 : Int) (v1 : Bool) (hF : roster_Decode_1 k v0 = some v1) :
    FCall Try.prog 96 [AV.int .i64 v0] [] (AV.bool v1) [] := by
  unfold roster_Decode_1 at hF
  refine FCall.enter Try.func96 rfl (by simp) (by decide) (by simp) (by simp) (by simp) (by simp) (by simp) ?_
  intro c0 w0 Q h0 hQ
  refine AW.wk [(0, AV.int .i64 v0)] [] 0 (by simp) (by simp) (by simp) ?_
  refine AW.seqR mixed [] [none] (by kernel_rfl) fun G3 R3 hG3 hR3 => ?_
  try simp
  repeat' apply And.intro
  any_goals (first | exact hG3 _ (by kernel_rfl) | refine hR3 _ _ _ ?_ | omega | (unfold maxLen; omega) | (simp; done) | (simp; omega))
  refine AW.wk [(0, AV.int .i64 v0)] [] 0 (by simp) (by simp) (by simp) ?_
  refine AW.seqR mixed [] [none, none, none, some (5, false), some (5, false), none, none] (by kernel_rfl) fun G4 R4 hG4 hR4 => ?_
  by_cases h1 : v0 < 0
  · replace hF := ite_t h1 hF
    have h1_ := h1
    try simp at h1_
    try simp [h1, h1_]
    repeat' apply And.intro
    any_goals (first | exact hG4 _ (by kernel_rfl) | refine hR4 _ _ _ ?_ | omega | (unfold maxLen; omega) | (simp [h1, h1_]; done) | (simp [h1, h1_]; omega))
    refine AW.wk [(2, AV.bool true)] [] 0 (by simp [h1, h1_]) (by simp [h1, h1_]) (by simp) ?_
    simp only [Option.some.injEq] at hF
    subst hF
    refine AW.ret (hQ _ _ _ ?_ (matchO_0 ?_)).1
    · simp [Try.f96, h1, h1_]
    · simp [h1, h1_]
  · replace hF := ite_f h1 hF
    have h1_ := h1
    try simp at h1_
    try simp [h1, h1_]
    repeat' apply And.intro
    any_goals (first | exact hG4 _ (by kernel_rfl) | refine hR4 _ _ _ ?_ | omega | (unfold maxLen; omega) | (simp [h1, h1_]; done) | (simp [h1, h1_]; omega))
    refine AW.wk [(2, AV.bool (decide (4294967296 ≤ v0)))] [] 0 (by simp [h1, h1_]) (by simp [h1, h1_]) (by simp) ?_
    simp only [Option.some.injEq] at hF
    subst hF
    refine AW.ret (hQ _ _ _ ?_ (matchO_0 ?_)).1
    · simp [Try.f96, h1, h1_]
    · simp [h1, h1_]
set_option maxHeartbeats 4000000 in
theorem w_slices_IndexFunc_int_int_Decode_1 (k : Nat) (v0 : (List Int)) (v1 : Int) (hF : slices_IndexFunc_int_int_Decode_1 k v0 = some v1) :
    FCall Try.prog 113 [AV.lst false false (List.map (AV.int .i64) v0), AV.fn 96 []] [] (AV.int .i64 v1) [] := by
  unfold slices_IndexFunc_int_int_Decode_1 at hF
  refine FCall.enter Try.func113 rfl (by simp) (by decide) (by simp) (by simp) (by simp) (by simp) (by simp) ?_
  intro c0 w0 Q h0 hQ
  refine AW.wk [(0, AV.lst false false (List.map (AV.int .i64) v0)), (1, AV.fn 96 [])] [] 0 (by simp) (by simp) (by simp) ?_
  refine AW.seqR mixed [] [none] (by kernel_rfl) fun G88 R88 hG88 hR88 => ?_
  try simp
  repeat' apply And.intro
  any_goals (first | exact hG88 _ (by kernel_rfl) | refine hR88 _ _ _ ?_ | omega | (unfold maxLen; omega) | (simp; done) | (simp; omega))
  refine AW.wk [(0, AV.lst false false (List.map (AV.int .i64) v0)), (1, AV.fn 96 [])] [] 0 (by simp) (by simp) (by simp) ?_
  refine AW.seq fun K131 hK131 => ?_
  refine AW.seqR mixed [] [none, none, none] (by kernel_rfl) fun G132 R132 hG132 hR132 => ?_
  try simp
  repeat' apply And.intro
  any_goals (first | exact hG132 _ (by kernel_rfl) | refine hR132 _ _ _ ?_ | omega | (unfold maxLen; omega) | (simp; done) | (simp; omega))
  refine AW.wk [(0, AV.lst false false (List.map (AV.int .i64) v0)), (1, AV.fn 96 []), (7, AV.int .i64 (v0.length : Int)), (8, AV.int .i64 0)] [] 0 (by simp) (by simp) (by simp) ?_
  refine AW.block ?_
  refine AW.loopF (α := Int) (fun n v2 => slices_IndexFunc_int_int_Decode_1.L1 k v0 n v2 = some v1) (fun v2 => [(0, AV.lst false false (List.map (AV.int .i64) v0)), (1, AV.fn 96 []), (7, AV.int .i64 (v0.length : Int)), (8, AV.int .i64 v2)]) (fun v2 => []) 0 k (0) hF (by simp) (by simp) (by simp) ?_
  rintro (_|n1) v2 hF K163 hK163
  · try dsimp only at hF
    rw [slices_IndexFunc_int_int_Decode_1.L1] at hF; cases hF
  try dsimp only at hF
  rw [slices_IndexFunc_int_int_Decode_1.L1] at hF
  refine AW.seqR mixed [] [none] (by kernel_rfl) fun G164 R164 hG164 hR164 => ?_
  try simp
  repeat' apply And.intro
  any_goals (first | exact hG164 _ (by kernel_rfl) | refine hR164 _ _ _ ?_ | omega | (unfold maxLen; omega) | (simp; done) | (simp; omega))
  refine AW.wk [(0, AV.lst false false (List.map (AV.int .i64) v0)), (1, AV.fn 96 []), (7, AV.int .i64 (v0.length : Int)), (8, AV.int .i64 v2), (9, AV.bool (decide (v2 < (v0.length : Int))))] [] 0 (by simp) (by simp) (by simp) ?_
  refine AW.seq fun K165 hK165 => ?_
  by_cases h1 : v2 < (v0.length : Int)
  · replace hF := ite_t h1 hF
    have h1_ := h1
    try simp at h1_
    refine AW.condT (by decide) (by first | (simp [h1, h1_]; done) | (simp [h1, h1_]; omega)) ?_
    refine AW.skip ?_
    refine hK165 _ _ _ ?_
    refine AW.seq fun K169 hK169 => ?_
    refine AW.block ?_
    refine AW.seqR mixed [] [none, none] (by kernel_rfl) fun G170 R170 hG170 hR170 => ?_
    try simp [h1, h1_]
    repeat' apply And.intro
    any_goals (first | exact hG170 _ (by kernel_rfl) | refine hR170 _ _ _ ?_ | omega | (unfold maxLen; omega) | (simp [h1, h1_]; done) | (simp [h1, h1_]; omega))
    refine AW.wk [(0, AV.lst false false (List.map (AV.int .i64) v0)), (1, AV.fn 96 []), (5, AV.int .i64 v2), (7, AV.int .i64 (v0.length : Int)), (8, AV.int .i64 v2)] [] 0 (by simp [h1, h1_]) (by simp [h1, h1_]) (by simp) ?_
    refine AW.seqR mixed [] [none, none, none, none, none, none] (by kernel_rfl) fun G171 R171 hG171 hR171 => ?_
    obtain ⟨v3, h2, h3, h4, hF⟩ := idx_elim hF
    have h4_ := get_of h4
    try simp at h4_
    have h3_ := h3
    try simp at h3_
    try simp [h1, h1_, h2, h3, h4, h4_, h3_]
    repeat' apply And.intro
    try any_goals (first | omega | (unfold maxLen; omega) | (simp [h1, h1_, h2, h3, h4, h4_, h3_]; done))
    obtain ⟨v4, h5, hF⟩ := bnd1_elim hF
    refine aCall_l (w_roster_Decode_1 k _ _ h5) (by simp) [] [] [] rfl (.cons (.same (by simp [h1, h1_, h2, h3, h4, h4_, h3_])) .nil) (by simp [h1, h1_, h2, h3, h4, h4_, h3_]) (by decide) (by simp) (by simp) (.inl rfl) (by simp) (by simp) ?_
    try simp [h1, h1_, h2, h3, h4, h4_, h3_]
    repeat' apply And.intro
    any_goals (first | exact hG171 _ (by kernel_rfl) | refine hR171 _ _ _ ?_ | omega | (unfold maxLen; omega) | (simp [h1, h1_, h2, h3, h4, h4_, h3_]; done) | (simp [h1, h1_, h2, h3, h4, h4_, h3_]; omega))
    refine AW.wk [(0, AV.lst false false (List.map (AV.int .i64) v0)), (1, AV.fn 96 []), (5, AV.int .i64 v2), (7, AV.int .i64 (v0.length : Int)), (8, AV.int .i64 v2), (16, AV.bool v4)] [] 0 (by simp [h1, h1_, h2, h3, h4, h4_, h3_]) (by simp [h1, h1_, h2, h3, h4, h4_, h3_]) (by simp) ?_
    by_cases h6 : v4 = true
    · replace hF := ite_t h6 hF
      have h6_ := h6
      try simp at h6_
      refine AW.condT (by decide) (by first | (simp [h1, h1_, h2, h3, h4, h4_, h3_, h6, h6_]; done) | (simp [h1, h1_, h2, h3, h4, h4_, h3_, h6, h6_]; omega)) ?_
      refine AW.seqR mixed [] [none, none] (by kernel_rfl) fun G172 R172 hG172 hR172 => ?_
      try simp [h1, h1_, h2, h3, h4, h4_, h3_, h6, h6_]
      repeat' apply And.intro
      any_goals (first | exact hG172 _ (by kernel_rfl) | refine hR172 _ _ _ ?_ | omega | (unfold maxLen; omega) | (simp [h1, h1_, h2, h3, h4, h4_, h3_, h6, h6_]; done) | (simp [h1, h1_, h2, h3, h4, h4_, h3_, h6, h6_]; omega))
      refine AW.wk [(4, AV.int .i64 v2)] [] 0 (by simp [h1, h1_, h2, h3, h4, h4_, h3_, h6, h6_]) (by simp [h1, h1_, h2, h3, h4, h4_, h3_, h6, h6_]) (by simp) ?_
      simp only [Option.some.injEq] at hF
      subst hF
      refine AW.ret (hQ _ _ _ ?_ (matchO_0 ?_)).1
      · simp [Try.f113, h1, h1_, h2, h3, h4, h4_, h3_, h6, h6_]
      · simp [h1, h1_, h2, h3, h4, h4_, h3_, h6, h6_]
    · replace hF := ite_f h6 hF
      have h6_ := h6
      try simp at h6_
      refine AW.condF (by decide) (by first | (simp [h1, h1_, h2, h3, h4, h4_, h3_, h6, h6_]; done) | (simp [h1, h1_, h2, h3, h4, h4_, h3_, h6, h6_]; omega)) ?_
      refine AW.skip ?_
      refine hK169 _ _ _ ?_
      refine AW.region mixed [] [none, none] (by kernel_rfl) fun G173 R173 hG173 hR173 => ?_
      try simp [h1, h1_, h2, h3, h4, h4_, h3_, h6, h6_]
      repeat' apply And.intro
      any_goals (first | exact hG173 _ (by kernel_rfl) | refine hR173 _ _ _ ?_ | omega | (unfold maxLen; omega) | (simp [h1, h1_, h2, h3, h4, h4_, h3_, h6, h6_]; done) | (simp [h1, h1_, h2, h3, h4, h4_, h3_, h6, h6_]; omega))
      refine hK163 _ _ _ ?_
      refine Can.weak [(0, AV.lst false false (List.map (AV.int .i64) v0)), (1, AV.fn 96 []), (7, AV.int .i64 (v0.length : Int)), (8, AV.int .i64 (IntKind.wrap .i64 (v2 + 1)))] [] 0 (by simp [h1, h1_, h2, h3, h4, h4_, h3_, h6, h6_]) (by simp [h1, h1_, h2, h3, h4, h4_, h3_, h6, h6_]) (by simp) ?_
      exact Can.next (k' := n1) (IntKind.wrap .i64 (v2 + 1)) (by omega) hF (by simp [h1, h1_, h2, h3, h4, h4_, h3_, h6, h6_]) (by simp [h1, h1_, h2, h3, h4, h4_, h3_, h6, h6_]) (by simp)
  · replace hF := ite_f h1 hF
    have h1_ := h1
    try simp at h1_
    refine AW.condF (by decide) (by first | (simp [h1, h1_]; done) | (simp [h1, h1_]; omega)) ?_
    refine AW.exit ?_
    try simp
    refine hK131 _ _ _ ?_
    refine AW.seqR mixed [] [none] (by kernel_rfl) fun G174 R174 hG174 hR174 => ?_
    try simp [h1, h1_]
    repeat' apply And.intro
    any_goals (first | exact hG174 _ (by kernel_rfl) | refine hR174 _ _ _ ?_ | omega | (unfold maxLen; omega) | (simp [h1, h1_]; done) | (simp [h1, h1_]; omega))
    refine AW.wk [(4, AV.int .i64 (-1))] [] 0 (by simp [h1, h1_]) (by simp [h1, h1_]) (by simp) ?_
    simp only [Option.some.injEq] at hF
    subst hF
    refine AW.ret (hQ _ _ _ ?_ (matchO_0 ?_)).1
    · simp [Try.f113, h1, h1_]
    · simp [h1, h1_]
set_option maxHeartbeats 4000000 in
theorem w_slices_ContainsFunc_int_int_Decode_1 (k : Nat) (v0 : (List Int)) (v1 : Bool) (hF : slices_ContainsFunc_int_int_Decode_1 k v0 = some v1) :
    FCall Try.prog 78 [AV.lst false false (List.map (AV.int .i64) v0), AV.fn 96 []] [] (AV.bool v1) [] := by
  unfold slices_ContainsFunc_int_int_Decode_1 at hF
  refine FCall.enter Try.func78 rfl (by simp) (by decide) (by simp) (by simp) (by simp) (by simp) (by simp) ?_
  intro c0 w0 Q h0 hQ
  refine AW.wk [(0, AV.lst false false (List.map (AV.int .i64) v0)), (1, AV.fn 96 [])] [] 0 (by simp) (by simp) (by simp) ?_
  refine AW.seqR mixed [] [none] (by kernel_rfl) fun G3 R3 hG3 hR3 => ?_
  try simp
  repeat' apply And.intro
  any_goals (first | exact hG3 _ (by kernel_rfl) | refine hR3 _ _ _ ?_ | omega | (unfold maxLen; omega) | (simp; done) | (simp; omega))
  refine AW.wk [(0, AV.lst false false (List.map (AV.int .i64) v0)), (1, AV.fn 96 [])] [] 0 (by simp) (by simp) (by simp) ?_
  refine AW.seqR mixed [] [none, none, none, none, none] (by kernel_rfl) fun G4 R4 hG4 hR4 => ?_
  try simp
  repeat' apply And.intro
  try any_goals (first | omega | (unfold maxLen; omega) | (simp; done))
  obtain ⟨v2, h1, hF⟩ := bnd1_elim hF
  refine aCall_l (w_slices_IndexFunc_int_int_Decode_1 k _ _ h1) (by simp) [] [] [] rfl (.cons (.same (by simp)) (.cons (.same (by simp)) .nil)) (by simp) (by decide) (by simp) (by simp) (.inl rfl) (by simp) (by simp) ?_
  try simp
  repeat' apply And.intro
  any_goals (first | exact hG4 _ (by kernel_rfl) | refine hR4 _ _ _ ?_ | omega | (unfold maxLen; omega) | (simp; done) | (simp; omega))
  refine AW.wk [(4, AV.bool (decide (0 ≤ v2)))] [] 0 (by simp) (by simp) (by simp) ?_
  simp only [Option.some.injEq] at hF
  subst hF
  refine AW.ret (hQ _ _ _ ?_ (matchO_0 ?_)).1
  · simp [Try.f78]
  · simp
set_option maxHeartbeats 4000000 in
theorem w_roster_Decode (k : Nat) (v0 : (List Int)) (v1 : (List Int)) (v2 : Int) (hF : roster_Decode k v0 = some (v1, v2)) :
    FCall Try.prog 63 [AV.lst false false (List.map (AV.int .i64) v0)] [] (AV.tup [AV.slc 0 0 1 v1.length false, AV.int .i64 v2]) [some (.grow (List.map (AV.int .i64) v1))] := by
  unfold roster_Decode at hF
  refine FCall.enter Try.func63 rfl (by simp) (by decide) (by simp) (by simp) (by simp) (by simp) (by simp) ?_
  intro c0 w0 Q h0 hQ
  refine AW.wk [(0, AV.lst false false (List.map (AV.int .i64) v0))] [] 0 (by simp) (by simp) (by simp) ?_
  refine AW.seqR mixed [] [none, none] (by kernel_rfl) fun G99 R99 hG99 hR99 => ?_
  try simp
  repeat' apply And.intro
  any_goals (first | exact hG99 _ (by kernel_rfl) | refine hR99 _ _ _ ?_ | omega | (unfold maxLen; omega) | (simp; done) | (simp; omega))
  refine AW.wk [(0, AV.lst false false (List.map (AV.int .i64) v0))] [] 0 (by simp) (by simp) (by simp) ?_
  refine AW.seqR mixed [] [none] (by kernel_rfl) fun G100 R100 hG100 hR100 => ?_
  try simp
  repeat' apply And.intro
  any_goals (first | exact hG100 _ (by kernel_rfl) | refine hR100 _ _ _ ?_ | omega | (unfold maxLen; omega) | (simp; done) | (simp; omega))
  refine AW.wk [(0, AV.lst false false (List.map (AV.int .i64) v0)), (4, AV.fn 96 [])] [] 0 (by simp) (by simp) (by simp) ?_
  refine AW.midF (α := Unit) (fun _ => roster_Decode.J1 k v0 = some (v1, v2)) (fun _ => [(0, AV.lst false false (List.map (AV.int .i64) v0))]) (fun _ => []) 0 (fun K192 hK192 => ?_) ?_
  · refine AW.seqR mixed [] [none, none, none, none, some (10, false), some (10, false), some (10, false), none, none, some (15, false), some (15, false), some (15, false), some (15, false), some (15, false), some (20, true), some (20, true), some (20, true), some (20, true), some (15, false), none] (by kernel_rfl) fun G193 R193 hG193 hR193 => ?_
    by_cases h8 : (v0.length : Int) ≠ 2
    · replace hF := ite_t h8 hF
      have h8_ := eqb_f h8
      have h8__ := neb_t h8
      try simp [h8, h8_, h8__]
      repeat' apply And.intro
      any_goals (first | exact hG193 _ (by kernel_rfl) | refine hR193 _ _ _ ?_ | omega | (unfold maxLen; omega) | (simp [h8, h8_, h8__]; done) | (simp [h8, h8_, h8__]; omega))
      refine AW.wk [(0, AV.lst false false (List.map (AV.int .i64) v0)), (26, AV.bool true)] [] 0 (by simp [h8, h8_, h8__]) (by simp [h8, h8_, h8__]) (by simp) ?_
      refine AW.condT (by decide) (by simp [h8, h8_, h8__]) ?_
      refine AW.seqR mixed [] [none, none] (by kernel_rfl) fun G194 R194 hG194 hR194 => ?_
      try simp [h8, h8_, h8__]
      repeat' apply And.intro
      any_goals (first | exact hG194 _ (by kernel_rfl) | refine hR194 _ _ _ ?_ | omega | (unfold maxLen; omega) | (simp [h8, h8_, h8__]; done) | (simp [h8, h8_, h8__]; omega))
      refine AW.wk [(2, AV.lst true true (List.map (AV.int .i64) ([] : List Int))), (3, AV.int .i64 43)] [] 0 (by simp [h8, h8_, h8__]) (by simp [h8, h8_, h8__]) (by simp) ?_
      refine AW.own' 2 1 true (by simp [h8, h8_, h8__]) (by decide) ?_
      simp only [Option.some.injEq, Prod.mk.injEq] at hF
      obtain ⟨e0, e1⟩ := hF
      subst e0 e1
      refine AW.ret (hQ _ _ _ ?_ (matchO_0 ?_)).1
      · simp [Try.f63, h8, h8_, h8__]
      · simp [h8, h8_, h8__]
    · replace hF := ite_f h8 hF
      have h8q : (v0.length : Int) = 2 := Classical.not_not.1 h8
      have h8_ := eqb_t h8q
      have h8__ := neb_f h8q
      try simp [h8_, h8__, h8q]
      repeat' apply And.intro
      try any_goals (first | omega | (unfold maxLen; omega) | (simp [h8_, h8__, h8q]; done))
      obtain ⟨v7, h9, hF⟩ := bnd1_elim hF
      refine aCall_l (w_slices_ContainsFunc_int_int_Decode_1 k _ _ h9) (by simp) [] [] [] rfl (.cons (.same (by simp [h8_, h8__, h8q])) (.cons (.same (by simp [h8_, h8__, h8q])) .nil)) (by simp [h8_, h8__, h8q]) (by decide) (by simp) (by simp) (.inl rfl) (by simp) (by simp) ?_
      by_cases h10 : v7 = true
      · replace hF := ite_t h10 hF
        have h10_ := h10
        try simp at h10_
        try simp [h8_, h8__, h8q, h10, h10_]
        repeat' apply And.intro
        any_goals (first | exact hG193 _ (by kernel_rfl) | refine hR193 _ _ _ ?_ | omega | (unfold maxLen; omega) | (simp [h8_, h8__, h8q, h10, h10_]; done) | (simp [h8_, h8__, h8q, h10, h10_]; omega))
        refine AW.wk [(0, AV.lst false false (List.map (AV.int .i64) v0)), (26, AV.bool true)] [] 0 (by simp [h8_, h8__, h8q, h10, h10_]) (by simp [h8_, h8__, h8q, h10, h10_]) (by simp) ?_
        refine AW.condT (by decide) (by simp [h8_, h8__, h8q, h10, h10_]) ?_
        refine AW.seqR mixed [] [none, none] (by kernel_rfl) fun G195 R195 hG195 hR195 => ?_
        try simp [h8_, h8__, h8q, h10, h10_]
        repeat' apply And.intro
        any_goals (first | exact hG195 _ (by kernel_rfl) | refine hR195 _ _ _ ?_ | omega | (unfold maxLen; omega) | (simp [h8_, h8__, h8q, h10, h10_]; done) | (simp [h8_, h8__, h8q, h10, h10_]; omega))
        refine AW.wk [(2, AV.lst true true (List.map (AV.int .i64) ([] : List Int))), (3, AV.int .i64 43)] [] 0 (by simp [h8_, h8__, h8q, h10, h10_]) (by simp [h8_, h8__, h8q, h10, h10_]) (by simp) ?_
        refine AW.own' 2 1 true (by simp [h8_, h8__, h8q, h10, h10_]) (by decide) ?_
        simp only [Option.some.injEq, Prod.mk.injEq] at hF
        obtain ⟨e0, e1⟩ := hF
        subst e0 e1
        refine AW.ret (hQ _ _ _ ?_ (matchO_0 ?_)).1
        · simp [Try.f63, h8_, h8__, h8q, h10, h10_]
        · simp [h8_, h8__, h8q, h10, h10_]
      · replace hF := ite_f h10 hF
        have h10_ := h10
        try simp at h10_
        obtain ⟨v8, h11, h12, h13, hF⟩ := idx_elim hF
        have h13_ := get_of h13
        try simp at h13_
        have h12_ := h12
        try simp at h12_
        have h13z := head_of h13
        by_cases h14 : v8 = 0
        · replace hF := ite_t h14 hF
          have h14q : v8 = 0 := h14
          have h14_ := eqb_t h14q
          have h14__ := neb_f h14q
          obtain ⟨v9, h15, h16, h17, hF⟩ := idx_elim hF
          have h17_ := get_of h17
          try simp at h17_
          have h16_ := h16
          try simp at h16_
          try simp [h8_, h8__, h8q, h10, h10_, h11, h12, h13, h13_, h12_, h13z, h14_, h14__, h14q, h15, h16, h17, h17_, h16_]
          repeat' apply And.intro
          any_goals (first | exact hG193 _ (by kernel_rfl) | refine hR193 _ _ _ ?_ | omega | (unfold maxLen; omega) | (simp [h8_, h8__, h8q, h10, h10_, h11, h12, h13, h13_, h12_, h13z, h14_, h14__, h14q, h15, h16, h17, h17_, h16_]; done) | (simp [h8_, h8__, h8q, h10, h10_, h11, h12, h13, h13_, h12_, h13z, h14_, h14__, h14q, h15, h16, h17, h17_, h16_]; omega))
          refine AW.wk [(0, AV.lst false false (List.map (AV.int .i64) v0)), (26, AV.bool (v9 == 0))] [] 0 (by simp [h8_, h8__, h8q, h10, h10_, h11, h12, h13, h13_, h12_, h13z, h14_, h14__, h14q, h15, h16, h17, h17_, h16_]) (by simp [h8_, h8__, h8q, h10, h10_, h11, h12, h13, h13_, h12_, h13z, h14_, h14__, h14q, h15, h16, h17, h17_, h16_]) (by simp) ?_
          by_cases h18 : v9 = 0
          · replace hF := ite_t h18 hF
            have h18q : v9 = 0 := h18
            have h18_ := eqb_t h18q
            have h18__ := neb_f h18q
            refine AW.condT (by decide) (by first | (simp [h8_, h8__, h8q, h10, h10_, h11, h12, h13, h13_, h12_, h13z, h14_, h14__, h14q, h15, h16, h17, h17_, h16_, h18_, h18__, h18q]; done) | (simp [h8_, h8__, h8q, h10, h10_, h11, h12, h13, h13_, h12_, h13z, h14_, h14__, h14q, h15, h16, h17, h17_, h16_, h18_, h18__, h18q]; omega)) ?_
            refine AW.seqR mixed [] [none, none] (by kernel_rfl) fun G196 R196 hG196 hR196 => ?_
            try simp [h8_, h8__, h8q, h10, h10_, h11, h12, h13, h13_, h12_, h13z, h14_, h14__, h14q, h15, h16, h17, h17_, h16_, h18_, h18__, h18q]
            repeat' apply And.intro
            any_goals (first | exact hG196 _ (by kernel_rfl) | refine hR196 _ _ _ ?_ | omega | (unfold maxLen; omega) | (simp [h8_, h8__, h8q, h10, h10_, h11, h12, h13, h13_, h12_, h13z, h14_, h14__, h14q, h15, h16, h17, h17_, h16_, h18_, h18__, h18q]; done) | (simp [h8_, h8__, h8q, h10, h10_, h11, h12, h13, h13_, h12_, h13z, h14_, h14__, h14q, h15, h16, h17, h17_, h16_, h18_, h18__, h18q]; omega))
            refine AW.wk [(2, AV.lst true true (List.map (AV.int .i64) ([] : List Int))), (3, AV.int .i64 43)] [] 0 (by simp [h8_, h8__, h8q, h10, h10_, h11, h12, h13, h13_, h12_, h13z, h14_, h14__, h14q, h15, h16, h17, h17_, h16_, h18_, h18__, h18q]) (by simp [h8_, h8__, h8q, h10, h10_, h11, h12, h13, h13_, h12_, h13z, h14_, h14__, h14q, h15, h16, h17, h17_, h16_, h18_, h18__, h18q]) (by simp) ?_
            refine AW.own' 2 1 true (by simp [h8_, h8__, h8q, h10, h10_, h11, h12, h13, h13_, h12_, h13z, h14_, h14__, h14q, h15, h16, h17, h17_, h16_, h18_, h18__, h18q]) (by decide) ?_
            simp only [Option.some.injEq, Prod.mk.injEq] at hF
            obtain ⟨e0, e1⟩ := hF
            subst e0 e1
            refine AW.ret (hQ _ _ _ ?_ (matchO_0 ?_)).1
            · simp [Try.f63, h8_, h8__, h8q, h10, h10_, h11, h12, h13, h13_, h12_, h13z, h14_, h14__, h14q, h15, h16, h17, h17_, h16_, h18_, h18__, h18q]
            · simp [h8_, h8__, h8q, h10, h10_, h11, h12, h13, h13_, h12_, h13z, h14_, h14__, h14q, h15, h16, h17, h17_, h16_, h18_, h18__, h18q]
          · replace hF := ite_f h18 hF
            have h18_ := eqb_f h18
            have h18__ := neb_t h18
            refine AW.condF (by decide) (by first | (simp [h8_, h8__, h8q, h10, h10_, h11, h12, h13, h13_, h12_, h13z, h14_, h14__, h14q, h15, h16, h17, h17_, h16_, h18, h18_, h18__]; done) | (simp [h8_, h8__, h8q, h10, h10_, h11, h12, h13, h13_, h12_, h13z, h14_, h14__, h14q, h15, h16, h17, h17_, h16_, h18, h18_, h18__]; omega)) ?_
            refine AW.skip ?_
            refine hK192 _ _ _ ?_
            exact Can.join (()) hF (by simp [h8_, h8__, h8q, h10, h10_, h11, h12, h13, h13_, h12_, h13z, h14_, h14__, h14q, h15, h16, h17, h17_, h16_, h18, h18_, h18__]) (by simp [h8_, h8__, h8q, h10, h10_, h11, h12, h13, h13_, h12_, h13z, h14_, h14__, h14q, h15, h16, h17, h17_, h16_, h18, h18_, h18__]) (by simp)
        · replace hF := ite_f h14 hF
          have h14_ := eqb_f h14
          have h14__ := neb_t h14
          try simp [h8_, h8__, h8q, h10, h10_, h11, h12, h13, h13_, h12_, h13z, h14, h14_, h14__]
          repeat' apply And.intro
          any_goals (first | exact hG193 _ (by kernel_rfl) | refine hR193 _ _ _ ?_ | omega | (unfold maxLen; omega) | (simp [h8_, h8__, h8q, h10, h10_, h11, h12, h13, h13_, h12_, h13z, h14, h14_, h14__]; done) | (simp [h8_, h8__, h8q, h10, h10_, h11, h12, h13, h13_, h12_, h13z, h14, h14_, h14__]; omega))
          refine AW.wk [(0, AV.lst false false (List.map (AV.int .i64) v0)), (26, AV.bool false)] [] 0 (by simp [h8_, h8__, h8q, h10, h10_, h11, h12, h13, h13_, h12_, h13z, h14, h14_, h14__]) (by simp [h8_, h8__, h8q, h10, h10_, h11, h12, h13, h13_, h12_, h13z, h14, h14_, h14__]) (by simp) ?_
          refine AW.condF (by decide) (by simp [h8_, h8__, h8q, h10, h10_, h11, h12, h13, h13_, h12_, h13z, h14, h14_, h14__]) ?_
          refine AW.skip ?_
          refine hK192 _ _ _ ?_
          exact Can.join (()) hF (by simp [h8_, h8__, h8q, h10, h10_, h11, h12, h13, h13_, h12_, h13z, h14, h14_, h14__]) (by simp [h8_, h8__, h8q, h10, h10_, h11, h12, h13, h13_, h12_, h13z, h14, h14_, h14__]) (by simp)
  · rintro ⟨⟩ hF
    try dsimp only at hF
    unfold roster_Decode.J1 at hF
    refine AW.seqR mixed [] [none] (by kernel_rfl) fun G105 R105 hG105 hR105 => ?_
    try simp
    repeat' apply And.intro
    any_goals (first | exact hG105 _ (by kernel_rfl) | refine hR105 _ _ _ ?_ | omega | (unfold maxLen; omega) | (simp; done) | (simp; omega))
    refine AW.wk [(0, AV.lst false false (List.map (AV.int .i64) v0)), (5, AV.lst true true (List.map (AV.int .i64) ([] : List Int)))] [] 0 (by simp) (by simp) (by simp) ?_
    refine AW.seq fun K148 hK148 => ?_
    refine AW.seqR mixed [] [none] (by kernel_rfl) fun G149 R149 hG149 hR149 => ?_
    try simp
    repeat' apply And.intro
    any_goals (first | exact hG149 _ (by kernel_rfl) | refine hR149 _ _ _ ?_ | omega | (unfold maxLen; omega) | (simp; done) | (simp; omega))
    refine AW.wk [(0, AV.lst false false (List.map (AV.int .i64) v0)), (5, AV.lst true true (List.map (AV.int .i64) ([] : List Int))), (27, AV.int .i64 0)] [] 0 (by simp) (by simp) (by simp) ?_
    refine AW.block ?_
    refine AW.own' 5 1 true (by simp) (by decide) ?_
    refine AW.loopF (α := (Int × (List Int))) (fun n (v3, v4) => roster_Decode.L2 k v0 n v3 v4 = some (v1, v2)) (fun (v3, v4) => [(0, AV.lst false false (List.map (AV.int .i64) v0)), (5, AV.slc 0 0 1 v4.length false), (27, AV.int .i64 v3)]) (fun (v3, v4) => [(0, .grow (List.map (AV.int .i64) v4))]) 1 k ((0, ([] : List Int))) hF (by simp) (by simp) (by simp) ?_
    rintro (_|n2) ⟨v3, v4⟩ hF K180 hK180
    · try dsimp only at hF
      rw [roster_Decode.L2] at hF; cases hF
    try dsimp only at hF
    rw [roster_Decode.L2] at hF
    refine AW.seqR mixed [] [none] (by kernel_rfl) fun G181 R181 hG181 hR181 => ?_
    try simp
    repeat' apply And.intro
    any_goals (first | exact hG181 _ (by kernel_rfl) | refine hR181 _ _ _ ?_ | omega | (unfold maxLen; omega) | (simp; done) | (simp; omega))
    refine AW.wk [(0, AV.lst false false (List.map (AV.int .i64) v0)), (5, AV.slc 0 0 1 v4.length false), (27, AV.int .i64 v3), (28, AV.bool (decide (v3 < 64)))] [(0, .grow (List.map (AV.int .i64) v4))] 1 (by simp) (by simp) (by simp) ?_
    refine AW.seq fun K182 hK182 => ?_
    by_cases h1 : v3 < 64
    · replace hF := ite_t h1 hF
      have h1_ := h1
      try simp at h1_
      refine AW.condT (by decide) (by first | (simp [h1, h1_]; done) | (simp [h1, h1_]; omega)) ?_
      refine AW.skip ?_
      refine hK182 _ _ _ ?_
      refine AW.midF (α := (List Int)) (fun v5 => roster_Decode.J3 k v3 (fun v3_ v4_ => roster_Decode.L2 k v0 n2 v3_ v4_) v5 = some (v1, v2)) (fun v5 => [(0, AV.lst false false (List.map (AV.int .i64) v0)), (5, AV.slc 0 0 1 v5.length false), (27, AV.int .i64 v3)]) (fun v5 => [(0, .grow (List.map (AV.int .i64) v5))]) 1 (fun K187 hK187 => ?_) ?_
      · refine AW.block ?_
        refine AW.seqR mixed [] [none, none] (by kernel_rfl) fun G188 R188 hG188 hR188 => ?_
        try simp [h1, h1_]
        repeat' apply And.intro
        any_goals (first | exact hG188 _ (by kernel_rfl) | refine hR188 _ _ _ ?_ | omega | (unfold maxLen; omega) | (simp [h1, h1_]; done) | (simp [h1, h1_]; omega))
        refine AW.wk [(0, AV.lst false false (List.map (AV.int .i64) v0)), (5, AV.slc 0 0 1 v4.length false), (6, AV.int .i64 v3), (27, AV.int .i64 v3)] [(0, .grow (List.map (AV.int .i64) v4))] 1 (by simp [h1, h1_]) (by simp [h1, h1_]) (by simp) ?_
        refine AW.seqR mixed [] [none, none, none, none, none, none, none, none, none, none] (by kernel_rfl) fun G189 R189 hG189 hR189 => ?_
        obtain ⟨v6, h2, h3, h4, hF⟩ := idx_elim hF
        have h4_ := get_of h4
        try simp at h4_
        have h3_ := h3
        try simp at h3_
        obtain ⟨h5, hF⟩ := chk_elim hF
        try simp [h1, h1_, h2, h3, h4, h4_, h3_, h5]
        repeat' apply And.intro
        any_goals (first | exact hG189 _ (by kernel_rfl) | refine hR189 _ _ _ ?_ | omega | (unfold maxLen; omega) | (simp [h1, h1_, h2, h3, h4, h4_, h3_, h5]; done) | (simp [h1, h1_, h2, h3, h4, h4_, h3_, h5]; omega))
        refine AW.wk [(0, AV.lst false false (List.map (AV.int .i64) v0)), (5, AV.slc 0 0 1 v4.length false), (6, AV.int .i64 v3), (27, AV.int .i64 v3), (39, AV.bool ((bitsV .and .i64 (Int.fdiv v6 (2 ^ (min ((Int.tmod v3 32).toNat) 64))) 1) == 1))] [(0, .grow (List.map (AV.int .i64) v4))] 1 (by simp [h1, h1_, h2, h3, h4, h4_, h3_, h5]) (by simp [h1, h1_, h2, h3, h4, h4_, h3_, h5]) (by simp) ?_
        by_cases h6 : (bitsV .and .i64 (Int.fdiv v6 (2 ^ (min ((Int.tmod v3 32).toNat) 64))) 1) = 1
        · replace hF := ite_t h6 hF
          have h6q : (bitsV .and .i64 (Int.fdiv v6 (2 ^ (min ((Int.tmod v3 32).toNat) 64))) 1) = 1 := h6
          have h6_ := eqb_t h6q
          have h6__ := neb_f h6q
          refine AW.condT (by decide) (by first | (simp [h1, h1_, h2, h3, h4, h4_, h3_, h5, h6_, h6__, h6q]; done) | (simp [h1, h1_, h2, h3, h4, h4_, h3_, h5, h6_, h6__, h6q]; omega)) ?_
          refine AW.region mixed [] [none, none, none, none, none] (by kernel_rfl) fun G190 R190 hG190 hR190 => ?_
          obtain ⟨h7, hF⟩ := chk_elim hF
          have h7_ := h7
          try simp at h7_
          try simp [h1, h1_, h2, h3, h4, h4_, h3_, h5, h6_, h6__, h6q, h7]
          repeat' apply And.intro
          any_goals (first | exact hG190 _ (by kernel_rfl) | refine hR190 _ _ _ ?_ | omega | (unfold maxLen; omega) | (simp [h1, h1_, h2, h3, h4, h4_, h3_, h5, h6_, h6__, h6q, h7]; done) | (simp [h1, h1_, h2, h3, h4, h4_, h3_, h5, h6_, h6__, h6q, h7]; omega))
          refine hK187 _ _ _ ?_
          refine Can.weak [(0, AV.lst false false (List.map (AV.int .i64) v0)), (5, AV.slc 1 0 1 ((v4 ++ ([v3] : List Int)).length) false), (27, AV.int .i64 v3)] [(1, .grow (List.map (AV.int .i64) (v4 ++ ([v3] : List Int))))] 2 (by simp [h1, h1_, h2, h3, h4, h4_, h3_, h5, h6_, h6__, h6q, h7]) (by simp [h1, h1_, h2, h3, h4, h4_, h3_, h5, h6_, h6__, h6q, h7]) (by simp) ?_
          refine Can.ren (m := 0) h0 [(0, 1)] [(0, AV.lst false false (List.map (AV.int .i64) v0)), (5, AV.slc 0 0 1 ((v4 ++ ([v3] : List Int)).length) false), (27, AV.int .i64 v3)] [(0, .grow (List.map (AV.int .i64) (v4 ++ ([v3] : List Int))))] 1 (by decide) (by decide) (by decide) rfl (by simp [h1, h1_, h2, h3, h4, h4_, h3_, h5, h6_, h6__, h6q, h7]) (by simp [h1, h1_, h2, h3, h4, h4_, h3_, h5, h6_, h6__, h6q, h7]) ?_
          exact Can.join (v4 ++ ([v3] : List Int)) hF (by simp [h1, h1_, h2, h3, h4, h4_, h3_, h5, h6_, h6__, h6q, h7]) (by simp [h1, h1_, h2, h3, h4, h4_, h3_, h5, h6_, h6__, h6q, h7]) (by simp)
        · replace hF := ite_f h6 hF
          have h6_ := eqb_f h6
          have h6__ := neb_t h6
          refine AW.condF (by decide) (by first | (simp [h1, h1_, h2, h3, h4, h4_, h3_, h5, h6, h6_, h6__]; done) | (simp [h1, h1_, h2, h3, h4, h4_, h3_, h5, h6, h6_, h6__]; omega)) ?_
          refine AW.skip ?_
          refine hK187 _ _ _ ?_
          exact Can.join (v4) hF (by simp [h1, h1_, h2, h3, h4, h4_, h3_, h5, h6, h6_, h6__]) (by simp [h1, h1_, h2, h3, h4, h4_, h3_, h5, h6, h6_, h6__]) (by simp)
      · rintro v5 hF
        try dsimp only at hF
        unfold roster_Decode.J3 at hF
        refine AW.region mixed [] [none, none] (by kernel_rfl) fun G186 R186 hG186 hR186 => ?_
        try simp [h1, h1_]
        repeat' apply And.intro
        any_goals (first | exact hG186 _ (by kernel_rfl) | refine hR186 _ _ _ ?_ | omega | (unfold maxLen; omega) | (simp [h1, h1_]; done) | (simp [h1, h1_]; omega))
        refine hK180 _ _ _ ?_
        refine Can.weak [(0, AV.lst false false (List.map (AV.int .i64) v0)), (5, AV.slc 0 0 1 v5.length false), (27, AV.int .i64 (IntKind.wrap .i64 (v3 + 1)))] [(0, .grow (List.map (AV.int .i64) v5))] 1 (by simp [h1, h1_]) (by simp [h1, h1_]) (by simp) ?_
        exact Can.next (k' := n2) ((IntKind.wrap .i64 (v3 + 1), v5)) (by omega) hF (by simp [h1, h1_]) (by simp [h1, h1_]) (by simp)
    · replace hF := ite_f h1 hF
      have h1_ := h1
      try simp at h1_
      refine AW.condF (by decide) (by first | (simp [h1, h1_]; done) | (simp [h1, h1_]; omega)) ?_
      refine AW.exit ?_
      try simp
      refine hK148 _ _ _ ?_
      refine AW.seqR mixed [] [none, none, none] (by kernel_rfl) fun G191 R191 hG191 hR191 => ?_
      try simp [h1, h1_]
      repeat' apply And.intro
      any_goals (first | exact hG191 _ (by kernel_rfl) | refine hR191 _ _ _ ?_ | omega | (unfold maxLen; omega) | (simp [h1, h1_]; done) | (simp [h1, h1_]; omega))
      refine AW.wk [(2, AV.slc 0 0 1 v4.length false), (3, AV.int .i64 0)] [(0, .grow (List.map (AV.int .i64) v4))] 1 (by simp [h1, h1_]) (by simp [h1, h1_]) (by simp) ?_
      simp only [Option.some.injEq, Prod.mk.injEq] at hF
      obtain ⟨e0, e1⟩ := hF
      subst e0 e1
      refine AW.ret (hQ _ _ _ ?_ (matchO_0 ?_)).1
      · simp [Try.f63, h1, h1_]
      · simp [h1, h1_]
end Go.TF
