/- Walks: the Go text computes the Lean functions (printed by a program of our own). -/
import Derived.Test.YtocmgnljgemjkaaPu
import Derived.Test.YtocmgnljgemjkaaAbsT
import Derived.Test.YtocmgnljgemjkaaWa0
import Derived.Test.YtocmgnljgemjkaaWR1
set_option linter.unusedVariables false
set_option linter.unusedSimpArgs false
set_option maxRecDepth 100000
namespace Go.TF
open Go Go.Abs Go.Proofs Go.Proofs.YtocmgnljgemjkaaT
set_option maxHeartbeats 4000000 in
theorem w_roster_key (k : Nat) (v0 : Int) (v1 : Bool) (hF : roster_key k v0 = some v1) :
    FCall Try.prog 85 [AV.int .i64 v0] [] (AV.bool v1) [] := by
  unfold roster_key at hF
  refine FCall.enter Try.func85 rfl (by simp) (by decide) (by simp) (by simp) (by simp) (by simp) (by simp) ?_
  intro c0 w0 Q h0 hQ
  refine AW.wk [(0, AV.int .i64 v0)] [] 0 (by simp) (by simp) (by simp) ?_
  refine AW.seqR mixed [] [none] (by kernel_rfl) fun G3 R3 hG3 hR3 => ?_
  try simp
  repeat' apply And.intro
  any_goals (first | exact hG3 _ (by kernel_rfl) | refine hR3 _ _ _ ?_ | omega | (unfold maxLen; omega) | (simp; done) | (simp; omega))
  refine AW.wk [(0, AV.int .i64 v0)] [] 0 (by simp) (by simp) (by simp) ?_
  refine AW.seqR mixed [] [none, none, none, some (5, true), some (5, true), none, none] (by kernel_rfl) fun G4 R4 hG4 hR4 => ?_
  by_cases h1 : 0 ≤ v0
  · replace hF := ite_t h1 hF
    have h1_ := h1
    try simp at h1_
    try simp [h1, h1_]
    repeat' apply And.intro
    any_goals (first | exact hG4 _ (by kernel_rfl) | refine hR4 _ _ _ ?_ | omega | (unfold maxLen; omega) | (simp [h1, h1_]; done) | (simp [h1, h1_]; omega))
    refine AW.wk [(2, AV.bool (decide (v0 < 64)))] [] 0 (by simp [h1, h1_]) (by simp [h1, h1_]) (by simp) ?_
    simp only [Option.some.injEq] at hF
    subst hF
    refine AW.ret (hQ _ _ _ ?_ (matchO_0 ?_)).1
    · simp [Try.f85, h1, h1_]
    · simp [h1, h1_]
  · replace hF := ite_f h1 hF
    have h1_ := h1
    try simp at h1_
    try simp [h1, h1_]
    repeat' apply And.intro
    any_goals (first | exact hG4 _ (by kernel_rfl) | refine hR4 _ _ _ ?_ | omega | (unfold maxLen; omega) | (simp [h1, h1_]; done) | (simp [h1, h1_]; omega))
    refine AW.wk [(2, AV.bool false)] [] 0 (by simp [h1, h1_]) (by simp [h1, h1_]) (by simp) ?_
    simp only [Option.some.injEq] at hF
    subst hF
    refine AW.ret (hQ _ _ _ ?_ (matchO_0 ?_)).1
    · simp [Try.f85, h1, h1_]
    · simp [h1, h1_]
set_option maxHeartbeats 4000000 in
theorem w_roster_of (k : Nat) (v0 : (List Int)) (v1 : (List Bool)) (hF : roster_of k v0 = some v1) :
    FCall Try.prog 86 [AV.lst false false (List.map (AV.int .i64) v0)] [] (AV.agg (List.map AV.bool v1)) [] := by
  unfold roster_of at hF
  refine FCall.enter Try.func86 rfl (by simp) (by decide) (by simp) (by simp) (by simp) (by simp) (by simp) ?_
  intro c0 w0 Q h0 hQ
  refine AW.wk [(0, AV.lst false false (List.map (AV.int .i64) v0))] [] 0 (by simp) (by simp) (by simp) ?_
  refine AW.seqR mixed [] [none] (by kernel_rfl) fun G69 R69 hG69 hR69 => ?_
  try simp
  repeat' apply And.intro
  any_goals (first | exact hG69 _ (by kernel_rfl) | refine hR69 _ _ _ ?_ | omega | (unfold maxLen; omega) | (simp; done) | (simp; omega))
  refine AW.wk [(0, AV.lst false false (List.map (AV.int .i64) v0)), (2, AV.ptr 0 0)] [(0, .cells (List.map AV.bool (List.replicate 64 false)))] 1 (by simp) (by simp) (by simp) ?_
  refine AW.seqR mixed [] [none] (by kernel_rfl) fun G70 R70 hG70 hR70 => ?_
  try simp
  repeat' apply And.intro
  any_goals (first | exact hG70 _ (by kernel_rfl) | refine hR70 _ _ _ ?_ | omega | (unfold maxLen; omega) | (simp; done) | (simp; omega))
  refine AW.wk [(0, AV.lst false false (List.map (AV.int .i64) v0)), (2, AV.ptr 0 0), (3, AV.ptr 1 0)] [(0, .cells (List.map AV.bool (List.replicate 64 false))), (1, .cells (List.map AV.bool (List.replicate 64 false)))] 2 (by simp) (by simp) (by simp) ?_
  refine AW.seq fun K103 hK103 => ?_
  refine AW.seqR mixed [] [none, none, none] (by kernel_rfl) fun G104 R104 hG104 hR104 => ?_
  try simp
  repeat' apply And.intro
  any_goals (first | exact hG104 _ (by kernel_rfl) | refine hR104 _ _ _ ?_ | omega | (unfold maxLen; omega) | (simp; done) | (simp; omega))
  refine AW.wk [(2, AV.ptr 0 0), (3, AV.ptr 1 0), (6, AV.lst false false (List.map (AV.int .i64) v0)), (7, AV.int .i64 (v0.length : Int)), (8, AV.int .i64 0)] [(0, .cells (List.map AV.bool (List.replicate 64 false))), (1, .cells (List.map AV.bool (List.replicate 64 false)))] 2 (by simp) (by simp) (by simp) ?_
  refine AW.block ?_
  refine AW.loopF (α := (Int × (List Bool))) (fun n (v2, v3) => roster_of.L1 k v0 n v2 v3 = some v1) (fun (v2, v3) => [(2, AV.ptr 0 0), (3, AV.ptr 1 0), (6, AV.lst false false (List.map (AV.int .i64) v0)), (7, AV.int .i64 (v0.length : Int)), (8, AV.int .i64 v2)]) (fun (v2, v3) => [(0, .cells (List.map AV.bool (List.replicate 64 false))), (1, .cells (List.map AV.bool v3))]) 2 k ((0, (List.replicate 64 false))) hF (by simp) (by simp) (by simp) ?_
  rintro (_|n1) ⟨v2, v3⟩ hF K125 hK125
  · try dsimp only at hF
    rw [roster_of.L1] at hF; cases hF
  try dsimp only at hF
  rw [roster_of.L1] at hF
  refine AW.seqR mixed [] [none] (by kernel_rfl) fun G126 R126 hG126 hR126 => ?_
  try simp
  repeat' apply And.intro
  any_goals (first | exact hG126 _ (by kernel_rfl) | refine hR126 _ _ _ ?_ | omega | (unfold maxLen; omega) | (simp; done) | (simp; omega))
  refine AW.wk [(2, AV.ptr 0 0), (3, AV.ptr 1 0), (6, AV.lst false false (List.map (AV.int .i64) v0)), (7, AV.int .i64 (v0.length : Int)), (8, AV.int .i64 v2), (9, AV.bool (decide (v2 < (v0.length : Int))))] [(0, .cells (List.map AV.bool (List.replicate 64 false))), (1, .cells (List.map AV.bool v3))] 2 (by simp) (by simp) (by simp) ?_
  refine AW.seq fun K127 hK127 => ?_
  by_cases h1 : v2 < (v0.length : Int)
  · replace hF := ite_t h1 hF
    have h1_ := h1
    try simp at h1_
    refine AW.condT (by decide) (by first | (simp [h1, h1_]; done) | (simp [h1, h1_]; omega)) ?_
    refine AW.skip ?_
    refine hK127 _ _ _ ?_
    refine AW.midF (α := (List Bool)) (fun v4 => roster_of.J2 k v2 (fun v2_ v3_ => roster_of.L1 k v0 n1 v2_ v3_) v4 = some v1) (fun v4 => [(2, AV.ptr 0 0), (3, AV.ptr 1 0), (6, AV.lst false false (List.map (AV.int .i64) v0)), (7, AV.int .i64 (v0.length : Int)), (8, AV.int .i64 v2)]) (fun v4 => [(0, .cells (List.map AV.bool (List.replicate 64 false))), (1, .cells (List.map AV.bool v4))]) 2 (fun K132 hK132 => ?_) ?_
    · refine AW.block ?_
      refine AW.seqR mixed [] [none, none, none] (by kernel_rfl) fun G133 R133 hG133 hR133 => ?_
      obtain ⟨v5, h2, h3, h4, hF⟩ := idx_elim hF
      have h4_ := get_of h4
      try simp at h4_
      have h3_ := h3
      try simp at h3_
      try simp [h1, h1_, h2, h3, h4, h4_, h3_]
      repeat' apply And.intro
      any_goals (first | exact hG133 _ (by kernel_rfl) | refine hR133 _ _ _ ?_ | omega | (unfold maxLen; omega) | (simp [h1, h1_, h2, h3, h4, h4_, h3_]; done) | (simp [h1, h1_, h2, h3, h4, h4_, h3_]; omega))
      refine AW.wk [(2, AV.ptr 0 0), (3, AV.ptr 1 0), (5, AV.int .i64 v5), (6, AV.lst false false (List.map (AV.int .i64) v0)), (7, AV.int .i64 (v0.length : Int)), (8, AV.int .i64 v2)] [(0, .cells (List.map AV.bool (List.replicate 64 false))), (1, .cells (List.map AV.bool v3))] 2 (by simp [h1, h1_, h2, h3, h4, h4_, h3_]) (by simp [h1, h1_, h2, h3, h4, h4_, h3_]) (by simp) ?_
      refine AW.seqR mixed [] [none, none] (by kernel_rfl) fun G134 R134 hG134 hR134 => ?_
      try simp [h1, h1_, h2, h3, h4, h4_, h3_]
      repeat' apply And.intro
      try any_goals (first | omega | (unfold maxLen; omega) | (simp [h1, h1_, h2, h3, h4, h4_, h3_]; done))
      obtain ⟨v6, h5, hF⟩ := bnd1_elim hF
      refine aCall_l (w_roster_key k _ _ h5) (by simp) [] [] [] rfl (.cons (.same (by simp [h1, h1_, h2, h3, h4, h4_, h3_])) .nil) (by simp [h1, h1_, h2, h3, h4, h4_, h3_]) (by decide) (by simp) (by simp) (.inl rfl) (by simp) (by simp) ?_
      try simp [h1, h1_, h2, h3, h4, h4_, h3_]
      repeat' apply And.intro
      any_goals (first | exact hG134 _ (by kernel_rfl) | refine hR134 _ _ _ ?_ | omega | (unfold maxLen; omega) | (simp [h1, h1_, h2, h3, h4, h4_, h3_]; done) | (simp [h1, h1_, h2, h3, h4, h4_, h3_]; omega))
      refine AW.wk [(2, AV.ptr 0 0), (3, AV.ptr 1 0), (5, AV.int .i64 v5), (6, AV.lst false false (List.map (AV.int .i64) v0)), (7, AV.int .i64 (v0.length : Int)), (8, AV.int .i64 v2), (13, AV.bool v6)] [(0, .cells (List.map AV.bool (List.replicate 64 false))), (1, .cells (List.map AV.bool v3))] 2 (by simp [h1, h1_, h2, h3, h4, h4_, h3_]) (by simp [h1, h1_, h2, h3, h4, h4_, h3_]) (by simp) ?_
      by_cases h6 : v6 = true
      · replace hF := ite_t h6 hF
        have h6_ := h6
        try simp at h6_
        refine AW.condT (by decide) (by first | (simp [h1, h1_, h2, h3, h4, h4_, h3_, h6, h6_]; done) | (simp [h1, h1_, h2, h3, h4, h4_, h3_, h6, h6_]; omega)) ?_
        refine AW.region mixed [] [none, none, none] (by kernel_rfl) fun G135 R135 hG135 hR135 => ?_
        obtain ⟨⟨h7, h9, h8⟩, hF⟩ := chk_elim hF
        have h8_ := ne_of_lt h8
        try simp [h1, h1_, h2, h3, h4, h4_, h3_, h6, h6_, h7, h8, h9, h8_]
        repeat' apply And.intro
        any_goals (first | exact hG135 _ (by kernel_rfl) | refine hR135 _ _ _ ?_ | omega | (unfold maxLen; omega) | (simp [h1, h1_, h2, h3, h4, h4_, h3_, h6, h6_, h7, h8, h9, h8_]; done) | (simp [h1, h1_, h2, h3, h4, h4_, h3_, h6, h6_, h7, h8, h9, h8_]; omega))
        refine hK132 _ _ _ ?_
        refine Can.weak [(2, AV.ptr 0 0), (3, AV.ptr 1 0), (6, AV.lst false false (List.map (AV.int .i64) v0)), (7, AV.int .i64 (v0.length : Int)), (8, AV.int .i64 v2)] [(0, .cells (List.map AV.bool (List.replicate 64 false))), (1, .cells (List.map AV.bool (v3.set (v5).toNat true)))] 2 (by simp [h1, h1_, h2, h3, h4, h4_, h3_, h6, h6_, h7, h8, h9, h8_]) (by simp [h1, h1_, h2, h3, h4, h4_, h3_, h6, h6_, h7, h8, h9, h8_]) (by simp) ?_
        exact Can.join (v3.set (v5).toNat true) hF (by simp [h1, h1_, h2, h3, h4, h4_, h3_, h6, h6_, h7, h8, h9, h8_]) (by simp [h1, h1_, h2, h3, h4, h4_, h3_, h6, h6_, h7, h8, h9, h8_]) (by simp)
      · replace hF := ite_f h6 hF
        have h6_ := h6
        try simp at h6_
        refine AW.condF (by decide) (by first | (simp [h1, h1_, h2, h3, h4, h4_, h3_, h6, h6_]; done) | (simp [h1, h1_, h2, h3, h4, h4_, h3_, h6, h6_]; omega)) ?_
        refine AW.skip ?_
        refine hK132 _ _ _ ?_
        exact Can.join (v3) hF (by simp [h1, h1_, h2, h3, h4, h4_, h3_, h6, h6_]) (by simp [h1, h1_, h2, h3, h4, h4_, h3_, h6, h6_]) (by simp)
    · rintro v4 hF
      try dsimp only at hF
      unfold roster_of.J2 at hF
      refine AW.region mixed [] [none, none] (by kernel_rfl) fun G131 R131 hG131 hR131 => ?_
      try simp [h1, h1_]
      repeat' apply And.intro
      any_goals (first | exact hG131 _ (by kernel_rfl) | refine hR131 _ _ _ ?_ | omega | (unfold maxLen; omega) | (simp [h1, h1_]; done) | (simp [h1, h1_]; omega))
      refine hK125 _ _ _ ?_
      refine Can.weak [(2, AV.ptr 0 0), (3, AV.ptr 1 0), (6, AV.lst false false (List.map (AV.int .i64) v0)), (7, AV.int .i64 (v0.length : Int)), (8, AV.int .i64 (IntKind.wrap .i64 (v2 + 1)))] [(0, .cells (List.map AV.bool (List.replicate 64 false))), (1, .cells (List.map AV.bool v4))] 2 (by simp [h1, h1_]) (by simp [h1, h1_]) (by simp) ?_
      exact Can.next (k' := n1) ((IntKind.wrap .i64 (v2 + 1), v4)) (by omega) hF (by simp [h1, h1_]) (by simp [h1, h1_]) (by simp)
  · replace hF := ite_f h1 hF
    have h1_ := h1
    try simp at h1_
    refine AW.condF (by decide) (by first | (simp [h1, h1_]; done) | (simp [h1, h1_]; omega)) ?_
    refine AW.exit ?_
    try simp
    refine hK103 _ _ _ ?_
    refine AW.seqR mixed [] [none, none] (by kernel_rfl) fun G136 R136 hG136 hR136 => ?_
    -- array load
    obtain ⟨h10, hF⟩ := chk_elim hF
    obtain ⟨h11, hF⟩ := chk_elim hF
    try simp [h1, h1_, h10, h11]
    repeat' apply And.intro
    any_goals (first | exact hG136 _ (by kernel_rfl) | refine hR136 _ _ _ ?_ | omega | (unfold maxLen; omega) | (simp [h1, h1_, h10, h11]; done) | (simp [h1, h1_, h10, h11]; omega))
    refine AW.wk [(2, AV.ptr 0 0)] [(0, .cells (List.map AV.bool v3))] 2 (by simp [h1, h1_, h10, h11]) (by simp [h1, h1_, h10, h11]) (by simp) ?_
    obtain ⟨h12, hF⟩ := chk_elim hF
    have h12_ := ne_of_len h12 (by decide)
    simp only [Option.some.injEq] at hF
    subst hF
    refine AW.ret (hQ _ _ _ ?_ (matchO_0 ?_)).1
    · simp [Try.f86, h1, h1_, h10, h11, h12, h12_]
    · simp [h1, h1_, h10, h11, h12, h12_]
set_option maxHeartbeats 4000000 in
theorem w_roster_Valid (k : Nat) (v0 : (List Int)) (v1 : Bool) (hF : roster_Valid k v0 = some v1) :
    FCall Try.prog 50 [AV.lst false false (List.map (AV.int .i64) v0)] [] (AV.bool v1) [] := by
  unfold roster_Valid at hF
  refine FCall.enter Try.func50 rfl (by simp) (by decide) (by simp) (by simp) (by simp) (by simp) (by simp) ?_
  intro c0 w0 Q h0 hQ
  refine AW.wk [(0, AV.lst false false (List.map (AV.int .i64) v0))] [] 0 (by simp) (by simp) (by simp) ?_
  refine AW.seqR mixed [] [none] (by kernel_rfl) fun G76 R76 hG76 hR76 => ?_
  try simp
  repeat' apply And.intro
  any_goals (first | exact hG76 _ (by kernel_rfl) | refine hR76 _ _ _ ?_ | omega | (unfold maxLen; omega) | (simp; done) | (simp; omega))
  refine AW.wk [(0, AV.lst false false (List.map (AV.int .i64) v0))] [] 0 (by simp) (by simp) (by simp) ?_
  refine AW.seq fun K113 hK113 => ?_
  refine AW.seqR mixed [] [none, none, none] (by kernel_rfl) fun G114 R114 hG114 hR114 => ?_
  try simp
  repeat' apply And.intro
  any_goals (first | exact hG114 _ (by kernel_rfl) | refine hR114 _ _ _ ?_ | omega | (unfold maxLen; omega) | (simp; done) | (simp; omega))
  refine AW.wk [(0, AV.lst false false (List.map (AV.int .i64) v0)), (5, AV.lst false false (List.map (AV.int .i64) v0)), (6, AV.int .i64 (v0.length : Int)), (7, AV.int .i64 0)] [] 0 (by simp) (by simp) (by simp) ?_
  refine AW.block ?_
  refine AW.loopF (α := Int) (fun n v2 => roster_Valid.L1 k v0 n v2 = some v1) (fun v2 => [(0, AV.lst false false (List.map (AV.int .i64) v0)), (5, AV.lst false false (List.map (AV.int .i64) v0)), (6, AV.int .i64 (v0.length : Int)), (7, AV.int .i64 v2)]) (fun v2 => []) 0 k (0) hF (by simp) (by simp) (by simp) ?_
  rintro (_|n1) v2 hF K137 hK137
  · try dsimp only at hF
    rw [roster_Valid.L1] at hF; cases hF
  try dsimp only at hF
  rw [roster_Valid.L1] at hF
  refine AW.seqR mixed [] [none] (by kernel_rfl) fun G138 R138 hG138 hR138 => ?_
  try simp
  repeat' apply And.intro
  any_goals (first | exact hG138 _ (by kernel_rfl) | refine hR138 _ _ _ ?_ | omega | (unfold maxLen; omega) | (simp; done) | (simp; omega))
  refine AW.wk [(0, AV.lst false false (List.map (AV.int .i64) v0)), (5, AV.lst false false (List.map (AV.int .i64) v0)), (6, AV.int .i64 (v0.length : Int)), (7, AV.int .i64 v2), (8, AV.bool (decide (v2 < (v0.length : Int))))] [] 0 (by simp) (by simp) (by simp) ?_
  refine AW.seq fun K139 hK139 => ?_
  by_cases h1 : v2 < (v0.length : Int)
  · replace hF := ite_t h1 hF
    have h1_ := h1
    try simp at h1_
    refine AW.condT (by decide) (by first | (simp [h1, h1_]; done) | (simp [h1, h1_]; omega)) ?_
    refine AW.skip ?_
    refine hK139 _ _ _ ?_
    refine AW.midF (α := Unit) (fun _ => roster_Valid.J2 k v2 (fun v2_ => roster_Valid.L1 k v0 n1 v2_) = some v1) (fun _ => [(0, AV.lst false false (List.map (AV.int .i64) v0)), (5, AV.lst false false (List.map (AV.int .i64) v0)), (6, AV.int .i64 (v0.length : Int)), (7, AV.int .i64 v2)]) (fun _ => []) 0 (fun K145 hK145 => ?_) ?_
    · refine AW.block ?_
      refine AW.seqR mixed [] [none, none, none, none, none] (by kernel_rfl) fun G146 R146 hG146 hR146 => ?_
      obtain ⟨v3, h2, h3, h4, hF⟩ := idx_elim hF
      have h4_ := get_of h4
      try simp at h4_
      have h3_ := h3
      try simp at h3_
      try simp [h1, h1_, h2, h3, h4, h4_, h3_]
      repeat' apply And.intro
      any_goals (first | exact hG146 _ (by kernel_rfl) | refine hR146 _ _ _ ?_ | omega | (unfold maxLen; omega) | (simp [h1, h1_, h2, h3, h4, h4_, h3_]; done) | (simp [h1, h1_, h2, h3, h4, h4_, h3_]; omega))
      refine AW.wk [(0, AV.lst false false (List.map (AV.int .i64) v0)), (3, AV.int .i64 v2), (4, AV.int .i64 v3), (5, AV.lst false false (List.map (AV.int .i64) v0)), (6, AV.int .i64 (v0.length : Int)), (7, AV.int .i64 v2)] [] 0 (by simp [h1, h1_, h2, h3, h4, h4_, h3_]) (by simp [h1, h1_, h2, h3, h4, h4_, h3_]) (by simp) ?_
      refine AW.seqR mixed [] [none, none, none, none, some (15, false), some (15, false), some (15, false), some (18, true), some (18, true), some (18, true), some (18, true), some (18, true), some (18, true), some (18, true), some (15, false), none] (by kernel_rfl) fun G147 R147 hG147 hR147 => ?_
      try simp [h1, h1_, h2, h3, h4, h4_, h3_]
      repeat' apply And.intro
      try any_goals (first | omega | (unfold maxLen; omega) | (simp [h1, h1_, h2, h3, h4, h4_, h3_]; done))
      obtain ⟨v4, h5, hF⟩ := bnd1_elim hF
      refine aCall_l (w_roster_key k _ _ h5) (by simp) [] [] [] rfl (.cons (.same (by simp [h1, h1_, h2, h3, h4, h4_, h3_])) .nil) (by simp [h1, h1_, h2, h3, h4, h4_, h3_]) (by decide) (by simp) (by simp) (.inl rfl) (by simp) (by simp) ?_
      by_cases h6 : (!v4) = true
      · replace hF := ite_t h6 hF
        have h6_ := h6
        try simp at h6_
        try simp [h1, h1_, h2, h3, h4, h4_, h3_, h6, h6_]
        repeat' apply And.intro
        any_goals (first | exact hG147 _ (by kernel_rfl) | refine hR147 _ _ _ ?_ | omega | (unfold maxLen; omega) | (simp [h1, h1_, h2, h3, h4, h4_, h3_, h6, h6_]; done) | (simp [h1, h1_, h2, h3, h4, h4_, h3_, h6, h6_]; omega))
        refine AW.wk [(0, AV.lst false false (List.map (AV.int .i64) v0)), (5, AV.lst false false (List.map (AV.int .i64) v0)), (6, AV.int .i64 (v0.length : Int)), (7, AV.int .i64 v2), (27, AV.bool true)] [] 0 (by simp [h1, h1_, h2, h3, h4, h4_, h3_, h6, h6_]) (by simp [h1, h1_, h2, h3, h4, h4_, h3_, h6, h6_]) (by simp) ?_
        refine AW.condT (by decide) (by simp [h1, h1_, h2, h3, h4, h4_, h3_, h6, h6_]) ?_
        refine AW.seqR mixed [] [none] (by kernel_rfl) fun G148 R148 hG148 hR148 => ?_
        try simp [h1, h1_, h2, h3, h4, h4_, h3_, h6, h6_]
        repeat' apply And.intro
        any_goals (first | exact hG148 _ (by kernel_rfl) | refine hR148 _ _ _ ?_ | omega | (unfold maxLen; omega) | (simp [h1, h1_, h2, h3, h4, h4_, h3_, h6, h6_]; done) | (simp [h1, h1_, h2, h3, h4, h4_, h3_, h6, h6_]; omega))
        refine AW.wk [(2, AV.bool false)] [] 0 (by simp [h1, h1_, h2, h3, h4, h4_, h3_, h6, h6_]) (by simp [h1, h1_, h2, h3, h4, h4_, h3_, h6, h6_]) (by simp) ?_
        simp only [Option.some.injEq] at hF
        subst hF
        refine AW.ret (hQ _ _ _ ?_ (matchO_0 ?_)).1
        · simp [Try.f50, h1, h1_, h2, h3, h4, h4_, h3_, h6, h6_]
        · simp [h1, h1_, h2, h3, h4, h4_, h3_, h6, h6_]
      · replace hF := ite_f h6 hF
        have h6_ := h6
        try simp at h6_
        by_cases h7 : 0 < v2
        · replace hF := ite_t h7 hF
          have h7_ := h7
          try simp at h7_
          obtain ⟨v5, h8, h9, h10, hF⟩ := idx_elim hF
          have h10_ := get_of h10
          try simp at h10_
          have h9_ := h9
          try simp at h9_
          try simp [h1, h1_, h2, h3, h4, h4_, h3_, h6, h6_, h7, h7_, h8, h9, h10, h10_, h9_]
          repeat' apply And.intro
          any_goals (first | exact hG147 _ (by kernel_rfl) | refine hR147 _ _ _ ?_ | omega | (unfold maxLen; omega) | (simp [h1, h1_, h2, h3, h4, h4_, h3_, h6, h6_, h7, h7_, h8, h9, h10, h10_, h9_]; done) | (simp [h1, h1_, h2, h3, h4, h4_, h3_, h6, h6_, h7, h7_, h8, h9, h10, h10_, h9_]; omega))
          refine AW.wk [(0, AV.lst false false (List.map (AV.int .i64) v0)), (5, AV.lst false false (List.map (AV.int .i64) v0)), (6, AV.int .i64 (v0.length : Int)), (7, AV.int .i64 v2), (27, AV.bool (decide (v3 ≤ v5)))] [] 0 (by simp [h1, h1_, h2, h3, h4, h4_, h3_, h6, h6_, h7, h7_, h8, h9, h10, h10_, h9_]) (by simp [h1, h1_, h2, h3, h4, h4_, h3_, h6, h6_, h7, h7_, h8, h9, h10, h10_, h9_]) (by simp) ?_
          by_cases h11 : v3 ≤ v5
          · replace hF := ite_t h11 hF
            have h11_ := h11
            try simp at h11_
            refine AW.condT (by decide) (by first | (simp [h1, h1_, h2, h3, h4, h4_, h3_, h6, h6_, h7, h7_, h8, h9, h10, h10_, h9_, h11, h11_]; done) | (simp [h1, h1_, h2, h3, h4, h4_, h3_, h6, h6_, h7, h7_, h8, h9, h10, h10_, h9_, h11, h11_]; omega)) ?_
            refine AW.seqR mixed [] [none] (by kernel_rfl) fun G149 R149 hG149 hR149 => ?_
            try simp [h1, h1_, h2, h3, h4, h4_, h3_, h6, h6_, h7, h7_, h8, h9, h10, h10_, h9_, h11, h11_]
            repeat' apply And.intro
            any_goals (first | exact hG149 _ (by kernel_rfl) | refine hR149 _ _ _ ?_ | omega | (unfold maxLen; omega) | (simp [h1, h1_, h2, h3, h4, h4_, h3_, h6, h6_, h7, h7_, h8, h9, h10, h10_, h9_, h11, h11_]; done) | (simp [h1, h1_, h2, h3, h4, h4_, h3_, h6, h6_, h7, h7_, h8, h9, h10, h10_, h9_, h11, h11_]; omega))
            refine AW.wk [(2, AV.bool false)] [] 0 (by simp [h1, h1_, h2, h3, h4, h4_, h3_, h6, h6_, h7, h7_, h8, h9, h10, h10_, h9_, h11, h11_]) (by simp [h1, h1_, h2, h3, h4, h4_, h3_, h6, h6_, h7, h7_, h8, h9, h10, h10_, h9_, h11, h11_]) (by simp) ?_
            simp only [Option.some.injEq] at hF
            subst hF
            refine AW.ret (hQ _ _ _ ?_ (matchO_0 ?_)).1
            · simp [Try.f50, h1, h1_, h2, h3, h4, h4_, h3_, h6, h6_, h7, h7_, h8, h9, h10, h10_, h9_, h11, h11_]
            · simp [h1, h1_, h2, h3, h4, h4_, h3_, h6, h6_, h7, h7_, h8, h9, h10, h10_, h9_, h11, h11_]
          · replace hF := ite_f h11 hF
            have h11_ := h11
            try simp at h11_
            refine AW.condF (by decide) (by first | (simp [h1, h1_, h2, h3, h4, h4_, h3_, h6, h6_, h7, h7_, h8, h9, h10, h10_, h9_, h11, h11_]; done) | (simp [h1, h1_, h2, h3, h4, h4_, h3_, h6, h6_, h7, h7_, h8, h9, h10, h10_, h9_, h11, h11_]; omega)) ?_
            refine AW.skip ?_
            refine hK145 _ _ _ ?_
            exact Can.join (()) hF (by simp [h1, h1_, h2, h3, h4, h4_, h3_, h6, h6_, h7, h7_, h8, h9, h10, h10_, h9_, h11, h11_]) (by simp [h1, h1_, h2, h3, h4, h4_, h3_, h6, h6_, h7, h7_, h8, h9, h10, h10_, h9_, h11, h11_]) (by simp)
        · replace hF := ite_f h7 hF
          have h7_ := h7
          try simp at h7_
          try simp [h1, h1_, h2, h3, h4, h4_, h3_, h6, h6_, h7, h7_]
          repeat' apply And.intro
          any_goals (first | exact hG147 _ (by kernel_rfl) | refine hR147 _ _ _ ?_ | omega | (unfold maxLen; omega) | (simp [h1, h1_, h2, h3, h4, h4_, h3_, h6, h6_, h7, h7_]; done) | (simp [h1, h1_, h2, h3, h4, h4_, h3_, h6, h6_, h7, h7_]; omega))
          refine AW.wk [(0, AV.lst false false (List.map (AV.int .i64) v0)), (5, AV.lst false false (List.map (AV.int .i64) v0)), (6, AV.int .i64 (v0.length : Int)), (7, AV.int .i64 v2), (27, AV.bool false)] [] 0 (by simp [h1, h1_, h2, h3, h4, h4_, h3_, h6, h6_, h7, h7_]) (by simp [h1, h1_, h2, h3, h4, h4_, h3_, h6, h6_, h7, h7_]) (by simp) ?_
          refine AW.condF (by decide) (by simp [h1, h1_, h2, h3, h4, h4_, h3_, h6, h6_, h7, h7_]) ?_
          refine AW.skip ?_
          refine hK145 _ _ _ ?_
          exact Can.join (()) hF (by simp [h1, h1_, h2, h3, h4, h4_, h3_, h6, h6_, h7, h7_]) (by simp [h1, h1_, h2, h3, h4, h4_, h3_, h6, h6_, h7, h7_]) (by simp)
    · rintro ⟨⟩ hF
      try dsimp only at hF
      unfold roster_Valid.J2 at hF
      refine AW.region mixed [] [none, none] (by kernel_rfl) fun G144 R144 hG144 hR144 => ?_
      try simp [h1, h1_]
      repeat' apply And.intro
      any_goals (first | exact hG144 _ (by kernel_rfl) | refine hR144 _ _ _ ?_ | omega | (unfold maxLen; omega) | (simp [h1, h1_]; done) | (simp [h1, h1_]; omega))
      refine hK137 _ _ _ ?_
      refine Can.weak [(0, AV.lst false false (List.map (AV.int .i64) v0)), (5, AV.lst false false (List.map (AV.int .i64) v0)), (6, AV.int .i64 (v0.length : Int)), (7, AV.int .i64 (IntKind.wrap .i64 (v2 + 1)))] [] 0 (by simp [h1, h1_]) (by simp [h1, h1_]) (by simp) ?_
      exact Can.next (k' := n1) (IntKind.wrap .i64 (v2 + 1)) (by omega) hF (by simp [h1, h1_]) (by simp [h1, h1_]) (by simp)
  · replace hF := ite_f h1 hF
    have h1_ := h1
    try simp at h1_
    refine AW.condF (by decide) (by first | (simp [h1, h1_]; done) | (simp [h1, h1_]; omega)) ?_
    refine AW.exit ?_
    try simp
    refine hK113 _ _ _ ?_
    refine AW.seqR mixed [] [none, none, none, none, none] (by kernel_rfl) fun G150 R150 hG150 hR150 => ?_
    try simp [h1, h1_]
    repeat' apply And.intro
    try any_goals (first | omega | (unfold maxLen; omega) | (simp [h1, h1_]; done))
    obtain ⟨v6, h12, hF⟩ := bnd1_elim hF
    refine aCall_l (w_roster_of k _ _ h12) (by simp) [] [] [] rfl (.cons (.same (by simp [h1, h1_])) .nil) (by simp [h1, h1_]) (by decide) (by simp) (by simp) (.inl rfl) (by simp) (by simp) ?_
    obtain ⟨h13, hF⟩ := chk_elim hF
    try simp [h1, h1_, h13]
    repeat' apply And.intro
    any_goals (first | exact hG150 _ (by kernel_rfl) | refine hR150 _ _ _ ?_ | omega | (unfold maxLen; omega) | (simp [h1, h1_, h13]; done) | (simp [h1, h1_, h13]; omega))
    refine AW.wk [(2, AV.bool (v6 != (List.replicate 64 false)))] [] 0 (by simp [h1, h1_, h13]) (by simp [h1, h1_, h13]) (by simp) ?_
    simp only [Option.some.injEq] at hF
    subst hF
    refine AW.ret (hQ _ _ _ ?_ (matchO_0 ?_)).1
    · simp [Try.f50, h1, h1_, h13]
    · simp [h1, h1_, h13]
set_option maxHeartbeats 4000000 in
theorem w_roster_Encode (k : Nat) (v0 : (List Int)) (v1 : (List Int)) (v2 : Int) (hF : roster_Encode k v0 = some (v1, v2)) :
    FCall Try.prog 47 [AV.lst false false (List.map (AV.int .i64) v0)] [] (AV.tup [AV.lst false false (List.map (AV.int .i64) v1), AV.int .i64 v2]) [] := by
  unfold roster_Encode at hF
  refine FCall.enter Try.func47 rfl (by simp) (by decide) (by simp) (by simp) (by simp) (by simp) (by simp) ?_
  intro c0 w0 Q h0 hQ
  refine AW.wk [(0, AV.lst false false (List.map (AV.int .i64) v0))] [] 0 (by simp) (by simp) (by simp) ?_
  refine AW.seqR mixed [] [none, none] (by kernel_rfl) fun G62 R62 hG62 hR62 => ?_
  try simp
  repeat' apply And.intro
  any_goals (first | exact hG62 _ (by kernel_rfl) | refine hR62 _ _ _ ?_ | omega | (unfold maxLen; omega) | (simp; done) | (simp; omega))
  refine AW.wk [(0, AV.lst false false (List.map (AV.int .i64) v0))] [] 0 (by simp) (by simp) (by simp) ?_
  refine AW.seq fun K65 hK65 => ?_
  refine AW.seqR mixed [] [none, none, none] (by kernel_rfl) fun G66 R66 hG66 hR66 => ?_
  try simp
  repeat' apply And.intro
  try any_goals (first | omega | (unfold maxLen; omega) | (simp; done))
  obtain ⟨v3, h1, hF⟩ := bnd1_elim hF
  refine aCall_l (w_roster_Valid k _ _ h1) (by simp) [] [] [] rfl (.cons (.same (by simp)) .nil) (by simp) (by decide) (by simp) (by simp) (.inl rfl) (by simp) (by simp) ?_
  try simp
  repeat' apply And.intro
  any_goals (first | exact hG66 _ (by kernel_rfl) | refine hR66 _ _ _ ?_ | omega | (unfold maxLen; omega) | (simp; done) | (simp; omega))
  refine AW.wk [(0, AV.lst false false (List.map (AV.int .i64) v0)), (9, AV.bool (!v3))] [] 0 (by simp) (by simp) (by simp) ?_
  by_cases h2 : (!v3) = true
  · replace hF := ite_t h2 hF
    have h2_ := h2
    try simp at h2_
    refine AW.condT (by decide) (by first | (simp [h2, h2_]; done) | (simp [h2, h2_]; omega)) ?_
    refine AW.seqR mixed [] [none, none] (by kernel_rfl) fun G67 R67 hG67 hR67 => ?_
    try simp [h2, h2_]
    repeat' apply And.intro
    any_goals (first | exact hG67 _ (by kernel_rfl) | refine hR67 _ _ _ ?_ | omega | (unfold maxLen; omega) | (simp [h2, h2_]; done) | (simp [h2, h2_]; omega))
    refine AW.wk [(2, AV.lst true true (List.map (AV.int .i64) ([] : List Int))), (3, AV.int .i64 43)] [] 0 (by simp [h2, h2_]) (by simp [h2, h2_]) (by simp) ?_
    refine AW.flg [(2, AV.lst false false (List.map (AV.int .i64) ([] : List Int)))] [] ⟨(.lst (by simp)), trivial⟩ trivial (by simp) ?_
    simp only [Option.some.injEq, Prod.mk.injEq] at hF
    obtain ⟨e0, e1⟩ := hF
    subst e0 e1
    refine AW.ret (hQ _ _ _ ?_ (matchO_0 ?_)).1
    · simp [Try.f47, h2, h2_]
    · simp [h2, h2_]
  · replace hF := ite_f h2 hF
    have h2_ := h2
    try simp at h2_
    refine AW.condF (by decide) (by first | (simp [h2, h2_]; done) | (simp [h2, h2_]; omega)) ?_
    refine AW.skip ?_
    refine hK65 _ _ _ ?_
    refine AW.seqR mixed [10] [none, none] (by kernel_rfl) fun G68 R68 hG68 hR68 => ?_
    try simp [h2, h2_]
    repeat' apply And.intro
    any_goals (first | exact hG68 _ (by kernel_rfl) | refine hR68 _ _ _ ?_ | omega | (unfold maxLen; omega) | (simp [h2, h2_]; done) | (simp [h2, h2_]; omega))
    refine AW.wk [(0, AV.lst false false (List.map (AV.int .i64) v0)), (4, AV.slc 0 0 1 (([0, 0] : List Int).length) true)] [(0, .cells (List.map (AV.int .i64) ([0, 0] : List Int)))] 1 (by simp [h2, h2_]) (by simp [h2, h2_]) (by simp) ?_
    refine AW.seq fun K95 hK95 => ?_
    refine AW.seqR mixed [] [none, none, none] (by kernel_rfl) fun G96 R96 hG96 hR96 => ?_
    try simp [h2, h2_]
    repeat' apply And.intro
    any_goals (first | exact hG96 _ (by kernel_rfl) | refine hR96 _ _ _ ?_ | omega | (unfold maxLen; omega) | (simp [h2, h2_]; done) | (simp [h2, h2_]; omega))
    refine AW.wk [(4, AV.slc 0 0 1 (([0, 0] : List Int).length) true), (11, AV.lst false false (List.map (AV.int .i64) v0)), (12, AV.int .i64 (v0.length : Int)), (13, AV.int .i64 0)] [(0, .cells (List.map (AV.int .i64) ([0, 0] : List Int)))] 1 (by simp [h2, h2_]) (by simp [h2, h2_]) (by simp) ?_
    refine AW.block ?_
    refine AW.loopF (α := (Int × (List Int))) (fun n (v4, v5) => roster_Encode.L1 k v0 n v4 v5 = some (v1, v2)) (fun (v4, v5) => [(4, AV.slc 0 0 1 v5.length true), (11, AV.lst false false (List.map (AV.int .i64) v0)), (12, AV.int .i64 (v0.length : Int)), (13, AV.int .i64 v4)]) (fun (v4, v5) => [(0, .cells (List.map (AV.int .i64) v5))]) 1 k ((0, ([0, 0] : List Int))) hF (by simp [h2, h2_]) (by simp [h2, h2_]) (by simp) ?_
    rintro (_|n1) ⟨v4, v5⟩ hF K113 hK113
    · try dsimp only at hF
      rw [roster_Encode.L1] at hF; cases hF
    try dsimp only at hF
    rw [roster_Encode.L1] at hF
    refine AW.seqR mixed [] [none] (by kernel_rfl) fun G114 R114 hG114 hR114 => ?_
    try simp [h2, h2_]
    repeat' apply And.intro
    any_goals (first | exact hG114 _ (by kernel_rfl) | refine hR114 _ _ _ ?_ | omega | (unfold maxLen; omega) | (simp [h2, h2_]; done) | (simp [h2, h2_]; omega))
    refine AW.wk [(4, AV.slc 0 0 1 v5.length true), (11, AV.lst false false (List.map (AV.int .i64) v0)), (12, AV.int .i64 (v0.length : Int)), (13, AV.int .i64 v4), (14, AV.bool (decide (v4 < (v0.length : Int))))] [(0, .cells (List.map (AV.int .i64) v5))] 1 (by simp [h2, h2_]) (by simp [h2, h2_]) (by simp) ?_
    refine AW.seq fun K115 hK115 => ?_
    by_cases h3 : v4 < (v0.length : Int)
    · replace hF := ite_t h3 hF
      have h3_ := h3
      try simp at h3_
      refine AW.condT (by decide) (by first | (simp [h2, h2_, h3, h3_]; done) | (simp [h2, h2_, h3, h3_]; omega)) ?_
      refine AW.skip ?_
      refine hK115 _ _ _ ?_
      refine AW.seq fun K118 hK118 => ?_
      refine AW.block ?_
      refine AW.seqR mixed [] [none, none, none] (by kernel_rfl) fun G119 R119 hG119 hR119 => ?_
      obtain ⟨v6, h4, h5, h6, hF⟩ := idx_elim hF
      have h6_ := get_of h6
      try simp at h6_
      have h5_ := h5
      try simp at h5_
      try simp [h2, h2_, h3, h3_, h4, h5, h6, h6_, h5_]
      repeat' apply And.intro
      any_goals (first | exact hG119 _ (by kernel_rfl) | refine hR119 _ _ _ ?_ | omega | (unfold maxLen; omega) | (simp [h2, h2_, h3, h3_, h4, h5, h6, h6_, h5_]; done) | (simp [h2, h2_, h3, h3_, h4, h5, h6, h6_, h5_]; omega))
      refine AW.wk [(4, AV.slc 0 0 1 v5.length true), (6, AV.int .i64 v6), (11, AV.lst false false (List.map (AV.int .i64) v0)), (12, AV.int .i64 (v0.length : Int)), (13, AV.int .i64 v4)] [(0, .cells (List.map (AV.int .i64) v5))] 1 (by simp [h2, h2_, h3, h3_, h4, h5, h6, h6_, h5_]) (by simp [h2, h2_, h3, h3_, h4, h5, h6, h6_, h5_]) (by simp) ?_
      refine AW.region mixed [] [none, none, none, none, none, none, none, none, none, none, none] (by kernel_rfl) fun G120 R120 hG120 hR120 => ?_
      obtain ⟨⟨h7, h8⟩, hF⟩ := chk_elim hF
      have h8_ := ne_of_lt h8
      obtain ⟨v7, h9, h10, h11, hF⟩ := idx_elim hF
      have h11_ := get_of h11
      try simp at h11_
      have h10_ := h10
      try simp at h10_
      obtain ⟨h12, hF⟩ := chk_elim hF
      obtain ⟨⟨h13, h14⟩, hF⟩ := chk_elim hF
      have h14_ := ne_of_lt h14
      try simp [h2, h2_, h3, h3_, h4, h5, h6, h6_, h5_, h7, h8, h8_, h9, h10, h11, h11_, h10_, h12, h13, h14, h14_]
      repeat' apply And.intro
      any_goals (first | exact hG120 _ (by kernel_rfl) | refine hR120 _ _ _ ?_ | omega | (unfold maxLen; omega) | (simp [h2, h2_, h3, h3_, h4, h5, h6, h6_, h5_, h7, h8, h8_, h9, h10, h11, h11_, h10_, h12, h13, h14, h14_]; done) | (simp [h2, h2_, h3, h3_, h4, h5, h6, h6_, h5_, h7, h8, h8_, h9, h10, h11, h11_, h10_, h12, h13, h14, h14_]; omega))
      refine hK118 _ _ _ ?_
      refine AW.wk [(4, AV.slc 0 0 1 ((v5.set (IntKind.wrap .i64 (Int.tdiv v6 32)).toNat (bitsV .or .i64 v7 (IntKind.wrap .i64 (1 * 2 ^ (min ((Int.tmod v6 32).toNat) 64))))).length) true), (11, AV.lst false false (List.map (AV.int .i64) v0)), (12, AV.int .i64 (v0.length : Int)), (13, AV.int .i64 v4)] [(0, .cells (List.map (AV.int .i64) (v5.set (IntKind.wrap .i64 (Int.tdiv v6 32)).toNat (bitsV .or .i64 v7 (IntKind.wrap .i64 (1 * 2 ^ (min ((Int.tmod v6 32).toNat) 64)))))))] 1 (by simp [h2, h2_, h3, h3_, h4, h5, h6, h6_, h5_, h7, h8, h8_, h9, h10, h11, h11_, h10_, h12, h13, h14, h14_]) (by simp [h2, h2_, h3, h3_, h4, h5, h6, h6_, h5_, h7, h8, h8_, h9, h10, h11, h11_, h10_, h12, h13, h14, h14_]) (by simp) ?_
      refine AW.region mixed [] [none, none] (by kernel_rfl) fun G121 R121 hG121 hR121 => ?_
      try simp [h2, h2_, h3, h3_, h4, h5, h6, h6_, h5_, h7, h8, h8_, h9, h10, h11, h11_, h10_, h12, h13, h14, h14_]
      repeat' apply And.intro
      any_goals (first | exact hG121 _ (by kernel_rfl) | refine hR121 _ _ _ ?_ | omega | (unfold maxLen; omega) | (simp [h2, h2_, h3, h3_, h4, h5, h6, h6_, h5_, h7, h8, h8_, h9, h10, h11, h11_, h10_, h12, h13, h14, h14_]; done) | (simp [h2, h2_, h3, h3_, h4, h5, h6, h6_, h5_, h7, h8, h8_, h9, h10, h11, h11_, h10_, h12, h13, h14, h14_]; omega))
      refine hK113 _ _ _ ?_
      refine Can.weak [(4, AV.slc 0 0 1 ((v5.set (IntKind.wrap .i64 (Int.tdiv v6 32)).toNat (bitsV .or .i64 v7 (IntKind.wrap .i64 (1 * 2 ^ (min ((Int.tmod v6 32).toNat) 64))))).length) true), (11, AV.lst false false (List.map (AV.int .i64) v0)), (12, AV.int .i64 (v0.length : Int)), (13, AV.int .i64 (IntKind.wrap .i64 (v4 + 1)))] [(0, .cells (List.map (AV.int .i64) (v5.set (IntKind.wrap .i64 (Int.tdiv v6 32)).toNat (bitsV .or .i64 v7 (IntKind.wrap .i64 (1 * 2 ^ (min ((Int.tmod v6 32).toNat) 64)))))))] 1 (by simp [h2, h2_, h3, h3_, h4, h5, h6, h6_, h5_, h7, h8, h8_, h9, h10, h11, h11_, h10_, h12, h13, h14, h14_]) (by simp [h2, h2_, h3, h3_, h4, h5, h6, h6_, h5_, h7, h8, h8_, h9, h10, h11, h11_, h10_, h12, h13, h14, h14_]) (by simp) ?_
      exact Can.next (k' := n1) ((IntKind.wrap .i64 (v4 + 1), v5.set (IntKind.wrap .i64 (Int.tdiv v6 32)).toNat (bitsV .or .i64 v7 (IntKind.wrap .i64 (1 * 2 ^ (min ((Int.tmod v6 32).toNat) 64)))))) (by omega) hF (by simp [h2, h2_, h3, h3_, h4, h5, h6, h6_, h5_, h7, h8, h8_, h9, h10, h11, h11_, h10_, h12, h13, h14, h14_]) (by simp [h2, h2_, h3, h3_, h4, h5, h6, h6_, h5_, h7, h8, h8_, h9, h10, h11, h11_, h10_, h12, h13, h14, h14_]) (by simp)
    · replace hF := ite_f h3 hF
      have h3_ := h3
      try simp at h3_
      refine AW.condF (by decide) (by first | (simp [h2, h2_, h3, h3_]; done) | (simp [h2, h2_, h3, h3_]; omega)) ?_
      refine AW.exit ?_
      try simp
      refine hK95 _ _ _ ?_
      refine AW.seqR mixed [] [none, none, none] (by kernel_rfl) fun G122 R122 hG122 hR122 => ?_
      try simp [h2, h2_, h3, h3_]
      repeat' apply And.intro
      any_goals (first | exact hG122 _ (by kernel_rfl) | refine hR122 _ _ _ ?_ | omega | (unfold maxLen; omega) | (simp [h2, h2_, h3, h3_]; done) | (simp [h2, h2_, h3, h3_]; omega))
      refine AW.wk [(2, AV.slc 0 0 1 v5.length true), (3, AV.int .i64 0)] [(0, .cells (List.map (AV.int .i64) v5))] 1 (by simp [h2, h2_, h3, h3_]) (by simp [h2, h2_, h3, h3_]) (by simp) ?_
      refine AW.wk [(2, AV.slc 0 0 1 v5.length true), (3, AV.int .i64 0)] [(0, .cells (List.map (AV.int .i64) v5))] 1 (by simp [h2, h2_, h3, h3_]) (by simp [h2, h2_, h3, h3_]) (by simp) ?_
      refine AW.frz 0 (o := .cells (List.map (AV.int .i64) v5)) (by simp [h2, h2_, h3, h3_]) rfl [(2, AV.lst false true (List.map (AV.int .i64) v5))] [] ⟨(.l (by simp) (by simp) (by simp) (by simp)), trivial⟩ trivial ?_
      refine AW.flg [(2, AV.lst false false (List.map (AV.int .i64) v5))] [] ⟨(.lst (by simp)), trivial⟩ trivial (by simp) ?_
      simp only [Option.some.injEq, Prod.mk.injEq] at hF
      obtain ⟨e0, e1⟩ := hF
      subst e0 e1
      refine AW.ret (hQ _ _ _ ?_ (matchO_0 ?_)).1
      · simp [Try.f47, h2, h2_, h3, h3_]
      · simp [h2, h2_, h3, h3_]
set_option maxHeartbeats 4000000 in
theorem w_ref23_SameInts (k : Nat) (v0 : (List Int)) (v1 : (List Int)) (v2 : Bool) (hF : ref23_SameInts k v0 v1 = some v2) :
    FCall Try.prog 49 [AV.lst false false (List.map (AV.int .i64) v0), AV.lst false false (List.map (AV.int .i64) v1)] [] (AV.bool v2) [] := by
  unfold ref23_SameInts at hF
  refine FCall.enter Try.func49 rfl (by simp) (by decide) (by simp) (by simp) (by simp) (by simp) (by simp) ?_
  intro c0 w0 Q h0 hQ
  refine AW.wk [(0, AV.lst false false (List.map (AV.int .i64) v0)), (1, AV.lst false false (List.map (AV.int .i64) v1))] [] 0 (by simp) (by simp) (by simp) ?_
  refine AW.seqR mixed [] [none] (by kernel_rfl) fun G67 R67 hG67 hR67 => ?_
  try simp
  repeat' apply And.intro
  any_goals (first | exact hG67 _ (by kernel_rfl) | refine hR67 _ _ _ ?_ | omega | (unfold maxLen; omega) | (simp; done) | (simp; omega))
  refine AW.wk [(0, AV.lst false false (List.map (AV.int .i64) v0)), (1, AV.lst false false (List.map (AV.int .i64) v1))] [] 0 (by simp) (by simp) (by simp) ?_
  refine AW.seq fun K70 hK70 => ?_
  refine AW.seqR mixed [] [none, none, none, none, none] (by kernel_rfl) fun G71 R71 hG71 hR71 => ?_
  try simp
  repeat' apply And.intro
  any_goals (first | exact hG71 _ (by kernel_rfl) | refine hR71 _ _ _ ?_ | omega | (unfold maxLen; omega) | (simp; done) | (simp; omega))
  refine AW.wk [(0, AV.lst false false (List.map (AV.int .i64) v0)), (1, AV.lst false false (List.map (AV.int .i64) v1)), (10, AV.bool ((v0.length : Int) != (v1.length : Int)))] [] 0 (by simp) (by simp) (by simp) ?_
  by_cases h1 : (v0.length : Int) ≠ (v1.length : Int)
  · replace hF := ite_t h1 hF
    have h1_ := eqb_f h1
    have h1__ := neb_t h1
    refine AW.condT (by decide) (by first | (simp [h1, h1_, h1__]; done) | (simp [h1, h1_, h1__]; omega)) ?_
    refine AW.seqR mixed [] [none] (by kernel_rfl) fun G72 R72 hG72 hR72 => ?_
    try simp [h1, h1_, h1__]
    repeat' apply And.intro
    any_goals (first | exact hG72 _ (by kernel_rfl) | refine hR72 _ _ _ ?_ | omega | (unfold maxLen; omega) | (simp [h1, h1_, h1__]; done) | (simp [h1, h1_, h1__]; omega))
    refine AW.wk [(4, AV.bool false)] [] 0 (by simp [h1, h1_, h1__]) (by simp [h1, h1_, h1__]) (by simp) ?_
    simp only [Option.some.injEq] at hF
    subst hF
    refine AW.ret (hQ _ _ _ ?_ (matchO_0 ?_)).1
    · simp [Try.f49, h1, h1_, h1__]
    · simp [h1, h1_, h1__]
  · replace hF := ite_f h1 hF
    have h1q : (v0.length : Int) = (v1.length : Int) := Classical.not_not.1 h1
    have h1_ := eqb_t h1q
    have h1__ := neb_f h1q
    refine AW.condF (by decide) (by first | (simp [h1_, h1__]; done) | (simp [h1_, h1__]; omega)) ?_
    refine AW.skip ?_
    refine hK70 _ _ _ ?_
    refine AW.seq fun K102 hK102 => ?_
    refine AW.seqR mixed [] [none] (by kernel_rfl) fun G103 R103 hG103 hR103 => ?_
    try simp [h1_, h1__]
    repeat' apply And.intro
    any_goals (first | exact hG103 _ (by kernel_rfl) | refine hR103 _ _ _ ?_ | omega | (unfold maxLen; omega) | (simp [h1_, h1__]; done) | (simp [h1_, h1__]; omega))
    refine AW.wk [(0, AV.lst false false (List.map (AV.int .i64) v0)), (1, AV.lst false false (List.map (AV.int .i64) v1)), (5, AV.int .i64 0)] [] 0 (by simp [h1_, h1__]) (by simp [h1_, h1__]) (by simp) ?_
    refine AW.block ?_
    refine AW.loopF (α := Int) (fun n v3 => ref23_SameInts.L1 k v0 v1 n v3 = some v2) (fun v3 => [(0, AV.lst false false (List.map (AV.int .i64) v0)), (1, AV.lst false false (List.map (AV.int .i64) v1)), (5, AV.int .i64 v3)]) (fun v3 => []) 0 k (0) hF (by simp [h1_, h1__]) (by simp [h1_, h1__]) (by simp) ?_
    rintro (_|n1) v3 hF K122 hK122
    · try dsimp only at hF
      rw [ref23_SameInts.L1] at hF; cases hF
    try dsimp only at hF
    rw [ref23_SameInts.L1] at hF
    refine AW.seq fun K124 hK124 => ?_
    refine AW.seqR mixed [] [none, none, none, none] (by kernel_rfl) fun G125 R125 hG125 hR125 => ?_
    try simp [h1_, h1__]
    repeat' apply And.intro
    any_goals (first | exact hG125 _ (by kernel_rfl) | refine hR125 _ _ _ ?_ | omega | (unfold maxLen; omega) | (simp [h1_, h1__]; done) | (simp [h1_, h1__]; omega))
    refine AW.wk [(0, AV.lst false false (List.map (AV.int .i64) v0)), (1, AV.lst false false (List.map (AV.int .i64) v1)), (5, AV.int .i64 v3), (14, AV.bool (decide (v3 < (v0.length : Int))))] [] 0 (by simp [h1_, h1__]) (by simp [h1_, h1__]) (by simp) ?_
    by_cases h2 : v3 < (v0.length : Int)
    · replace hF := ite_t h2 hF
      have h2_ := h2
      try simp at h2_
      refine AW.condT (by decide) (by first | (simp [h1_, h1__, h2, h2_]; done) | (simp [h1_, h1__, h2, h2_]; omega)) ?_
      refine AW.skip ?_
      refine hK124 _ _ _ ?_
      refine AW.seq fun K128 hK128 => ?_
      refine AW.block ?_
      refine AW.seqR mixed [] [none, none, none, none, none, none, none, none, none] (by kernel_rfl) fun G129 R129 hG129 hR129 => ?_
      obtain ⟨v4, h3, h4, h5, hF⟩ := idx_elim hF
      have h5_ := get_of h5
      try simp at h5_
      have h4_ := h4
      try simp at h4_
      obtain ⟨v5, h6, h7, h8, hF⟩ := idx_elim hF
      have h8_ := get_of h8
      try simp at h8_
      have h7_ := h7
      try simp at h7_
      try simp [h1_, h1__, h2, h2_, h3, h4, h5, h5_, h4_, h6, h7, h8, h8_, h7_]
      repeat' apply And.intro
      any_goals (first | exact hG129 _ (by kernel_rfl) | refine hR129 _ _ _ ?_ | omega | (unfold maxLen; omega) | (simp [h1_, h1__, h2, h2_, h3, h4, h5, h5_, h4_, h6, h7, h8, h8_, h7_]; done) | (simp [h1_, h1__, h2, h2_, h3, h4, h5, h5_, h4_, h6, h7, h8, h8_, h7_]; omega))
      refine AW.wk [(0, AV.lst false false (List.map (AV.int .i64) v0)), (1, AV.lst false false (List.map (AV.int .i64) v1)), (5, AV.int .i64 v3), (25, AV.bool (v4 != v5))] [] 0 (by simp [h1_, h1__, h2, h2_, h3, h4, h5, h5_, h4_, h6, h7, h8, h8_, h7_]) (by simp [h1_, h1__, h2, h2_, h3, h4, h5, h5_, h4_, h6, h7, h8, h8_, h7_]) (by simp) ?_
      by_cases h9 : v4 ≠ v5
      · replace hF := ite_t h9 hF
        have h9_ := eqb_f h9
        have h9__ := neb_t h9
        refine AW.condT (by decide) (by first | (simp [h1_, h1__, h2, h2_, h3, h4, h5, h5_, h4_, h6, h7, h8, h8_, h7_, h9, h9_, h9__]; done) | (simp [h1_, h1__, h2, h2_, h3, h4, h5, h5_, h4_, h6, h7, h8, h8_, h7_, h9, h9_, h9__]; omega)) ?_
        refine AW.seqR mixed [] [none] (by kernel_rfl) fun G130 R130 hG130 hR130 => ?_
        try simp [h1_, h1__, h2, h2_, h3, h4, h5, h5_, h4_, h6, h7, h8, h8_, h7_, h9, h9_, h9__]
        repeat' apply And.intro
        any_goals (first | exact hG130 _ (by kernel_rfl) | refine hR130 _ _ _ ?_ | omega | (unfold maxLen; omega) | (simp [h1_, h1__, h2, h2_, h3, h4, h5, h5_, h4_, h6, h7, h8, h8_, h7_, h9, h9_, h9__]; done) | (simp [h1_, h1__, h2, h2_, h3, h4, h5, h5_, h4_, h6, h7, h8, h8_, h7_, h9, h9_, h9__]; omega))
        refine AW.wk [(4, AV.bool false)] [] 0 (by simp [h1_, h1__, h2, h2_, h3, h4, h5, h5_, h4_, h6, h7, h8, h8_, h7_, h9, h9_, h9__]) (by simp [h1_, h1__, h2, h2_, h3, h4, h5, h5_, h4_, h6, h7, h8, h8_, h7_, h9, h9_, h9__]) (by simp) ?_
        simp only [Option.some.injEq] at hF
        subst hF
        refine AW.ret (hQ _ _ _ ?_ (matchO_0 ?_)).1
        · simp [Try.f49, h1_, h1__, h2, h2_, h3, h4, h5, h5_, h4_, h6, h7, h8, h8_, h7_, h9, h9_, h9__]
        · simp [h1_, h1__, h2, h2_, h3, h4, h5, h5_, h4_, h6, h7, h8, h8_, h7_, h9, h9_, h9__]
      · replace hF := ite_f h9 hF
        have h9q : v4 = v5 := Classical.not_not.1 h9
        have h9_ := eqb_t h9q
        have h9__ := neb_f h9q
        refine AW.condF (by decide) (by first | (simp [h1_, h1__, h2, h2_, h3, h4, h5, h5_, h4_, h6, h7, h8, h8_, h7_, h9_, h9__]; done) | (simp [h1_, h1__, h2, h2_, h3, h4, h5, h5_, h4_, h6, h7, h8, h8_, h7_, h9_, h9__]; omega)) ?_
        refine AW.skip ?_
        refine hK128 _ _ _ ?_
        refine AW.region mixed [] [none, none, none] (by kernel_rfl) fun G131 R131 hG131 hR131 => ?_
        try simp [h1_, h1__, h2, h2_, h3, h4, h5, h5_, h4_, h6, h7, h8, h8_, h7_, h9_, h9__]
        repeat' apply And.intro
        any_goals (first | exact hG131 _ (by kernel_rfl) | refine hR131 _ _ _ ?_ | omega | (unfold maxLen; omega) | (simp [h1_, h1__, h2, h2_, h3, h4, h5, h5_, h4_, h6, h7, h8, h8_, h7_, h9_, h9__]; done) | (simp [h1_, h1__, h2, h2_, h3, h4, h5, h5_, h4_, h6, h7, h8, h8_, h7_, h9_, h9__]; omega))
        refine hK122 _ _ _ ?_
        refine Can.weak [(0, AV.lst false false (List.map (AV.int .i64) v0)), (1, AV.lst false false (List.map (AV.int .i64) v1)), (5, AV.int .i64 (IntKind.wrap .i64 (v3 + 1)))] [] 0 (by simp [h1_, h1__, h2, h2_, h3, h4, h5, h5_, h4_, h6, h7, h8, h8_, h7_, h9_, h9__]) (by simp [h1_, h1__, h2, h2_, h3, h4, h5, h5_, h4_, h6, h7, h8, h8_, h7_, h9_, h9__]) (by simp) ?_
        exact Can.next (k' := n1) (IntKind.wrap .i64 (v3 + 1)) (by omega) hF (by simp [h1_, h1__, h2, h2_, h3, h4, h5, h5_, h4_, h6, h7, h8, h8_, h7_, h9_, h9__]) (by simp [h1_, h1__, h2, h2_, h3, h4, h5, h5_, h4_, h6, h7, h8, h8_, h7_, h9_, h9__]) (by simp)
    · replace hF := ite_f h2 hF
      have h2_ := h2
      try simp at h2_
      refine AW.condF (by decide) (by first | (simp [h1_, h1__, h2, h2_]; done) | (simp [h1_, h1__, h2, h2_]; omega)) ?_
      refine AW.exit ?_
      try simp
      refine hK102 _ _ _ ?_
      refine AW.seqR mixed [] [none] (by kernel_rfl) fun G132 R132 hG132 hR132 => ?_
      try simp [h1_, h1__, h2, h2_]
      repeat' apply And.intro
      any_goals (first | exact hG132 _ (by kernel_rfl) | refine hR132 _ _ _ ?_ | omega | (unfold maxLen; omega) | (simp [h1_, h1__, h2, h2_]; done) | (simp [h1_, h1__, h2, h2_]; omega))
      refine AW.wk [(4, AV.bool true)] [] 0 (by simp [h1_, h1__, h2, h2_]) (by simp [h1_, h1__, h2, h2_]) (by simp) ?_
      simp only [Option.some.injEq] at hF
      subst hF
      refine AW.ret (hQ _ _ _ ?_ (matchO_0 ?_)).1
      · simp [Try.f49, h1_, h1__, h2, h2_]
      · simp [h1_, h1__, h2, h2_]
set_option maxHeartbeats 4000000 in
theorem w_law24_awake (k : Nat) (v0 : Bool) (hF : law24_awake k = some v0) :
    FCall Try.prog 48 [] [] (AV.bool v0) [] := by
  unfold law24_awake at hF
  refine FCall.enter Try.func48 rfl (by simp) (by decide) (by simp) (by simp) (by simp) (by simp) (by simp) ?_
  intro c0 w0 Q h0 hQ
  refine AW.wk [] [] 0 (by simp) (by simp) (by simp) ?_
  refine AW.seqR mixed [] [none] (by kernel_rfl) fun G5 R5 hG5 hR5 => ?_
  try simp
  repeat' apply And.intro
  any_goals (first | exact hG5 _ (by kernel_rfl) | refine hR5 _ _ _ ?_ | omega | (unfold maxLen; omega) | (simp; done) | (simp; omega))
  refine AW.wk [] [] 0 (by simp) (by simp) (by simp) ?_
  refine AW.seqR mixed [] [none, none, none, none, none, none, none] (by kernel_rfl) fun G6 R6 hG6 hR6 => ?_
  try simp
  repeat' apply And.intro
  try any_goals (first | omega | (unfold maxLen; omega) | (simp; done))
  obtain ⟨v1, v2, h1, hF⟩ := bnd2_elim hF
  refine aCall_l (w_roster_Encode k _ _ _ h1) (by simp) [] [] [] rfl (.cons (Coe.fl (by simp)) .nil) (by simp) (by decide) (by simp) (by simp) (.inl rfl) (by simp) (by simp) ?_
  try simp
  repeat' apply And.intro
  any_goals (first | exact hG6 _ (by kernel_rfl) | refine hR6 _ _ _ ?_ | omega | (unfold maxLen; omega) | (simp; done) | (simp; omega))
  refine AW.wk [(1, AV.lst false false (List.map (AV.int .i64) v1)), (2, AV.int .i64 v2)] [] 0 (by simp) (by simp) (by simp) ?_
  refine AW.seqR mixed [] [none, none, none, none, none, none, none] (by kernel_rfl) fun G7 R7 hG7 hR7 => ?_
  try simp
  repeat' apply And.intro
  try any_goals (first | omega | (unfold maxLen; omega) | (simp; done))
  obtain ⟨v3, v4, h2, hF⟩ := bnd2_elim hF
  refine aCall_l (w_roster_Decode k _ _ _ h2) (by simp) [] [] [] rfl (.cons (.same (by simp)) .nil) (by simp) (by decide) (by simp) (by simp) (.inl rfl) (by simp) (by simp) ?_
  try simp
  repeat' apply And.intro
  any_goals (first | exact hG7 _ (by kernel_rfl) | refine hR7 _ _ _ ?_ | omega | (unfold maxLen; omega) | (simp; done) | (simp; omega))
  refine AW.wk [(1, AV.lst false false (List.map (AV.int .i64) v1)), (2, AV.int .i64 v2), (3, AV.slc 0 0 1 v3.length false), (4, AV.int .i64 v4)] [(0, .grow (List.map (AV.int .i64) v3))] 1 (by simp) (by simp) (by simp) ?_
  refine AW.frz 0 (o := .grow (List.map (AV.int .i64) v3)) (by simp) rfl [(3, AV.lst false false (List.map (AV.int .i64) v3))] [] ⟨(.l (by simp) (by simp) (by simp) (by simp)), trivial⟩ trivial ?_
  refine AW.wk [(1, AV.lst false false (List.map (AV.int .i64) v1)), (2, AV.int .i64 v2), (3, AV.lst false false (List.map (AV.int .i64) v3)), (4, AV.int .i64 v4)] [] 1 (by simp) (by simp) (by simp) ?_
  refine AW.seqR mixed [] [none, none, none, some (17, true), some (17, true), none, none, some (21, true), some (21, true), some (21, true), none, none, some (26, true), some (26, true), some (26, true), none, none] (by kernel_rfl) fun G8 R8 hG8 hR8 => ?_
  by_cases h3 : v2 = 0
  · replace hF := ite_t h3 hF
    have h3q : v2 = 0 := h3
    have h3_ := eqb_t h3q
    have h3__ := neb_f h3q
    by_cases h4 : v4 = 0
    · replace hF := ite_t h4 hF
      have h4q : v4 = 0 := h4
      have h4_ := eqb_t h4q
      have h4__ := neb_f h4q
      try simp [h3_, h3__, h3q, h4_, h4__, h4q]
      repeat' apply And.intro
      try any_goals (first | omega | (unfold maxLen; omega) | (simp [h3_, h3__, h3q, h4_, h4__, h4q]; done))
      obtain ⟨v5, h5, hF⟩ := bnd1_elim hF
      refine aCall_l (w_ref23_SameInts k _ _ _ h5) (by simp) [] [] [] rfl (.cons (.same (by simp [h3_, h3__, h3q, h4_, h4__, h4q])) (.cons (Coe.fl (by simp [h3_, h3__, h3q, h4_, h4__, h4q])) .nil)) (by simp [h3_, h3__, h3q, h4_, h4__, h4q]) (by decide) (by simp) (by simp) (.inl rfl) (by simp) (by simp) ?_
      by_cases h6 : v5 = true
      · replace hF := ite_t h6 hF
        have h6_ := h6
        try simp at h6_
        try simp [h3_, h3__, h3q, h4_, h4__, h4q, h6, h6_]
        repeat' apply And.intro
        try any_goals (first | omega | (unfold maxLen; omega) | (simp [h3_, h3__, h3q, h4_, h4__, h4q, h6, h6_]; done))
        obtain ⟨v6, h7, hF⟩ := bnd1_elim hF
        refine aCall_l (w_ref23_SameInts k _ _ _ h7) (by simp) [] [] [] rfl (.cons (.same (by simp [h3_, h3__, h3q, h4_, h4__, h4q, h6, h6_])) (.cons (Coe.fl (by simp [h3_, h3__, h3q, h4_, h4__, h4q, h6, h6_])) .nil)) (by simp [h3_, h3__, h3q, h4_, h4__, h4q, h6, h6_]) (by decide) (by simp) (by simp) (.inl rfl) (by simp) (by simp) ?_
        try simp [h3_, h3__, h3q, h4_, h4__, h4q, h6, h6_]
        repeat' apply And.intro
        any_goals (first | exact hG8 _ (by kernel_rfl) | refine hR8 _ _ _ ?_ | omega | (unfold maxLen; omega) | (simp [h3_, h3__, h3q, h4_, h4__, h4q, h6, h6_]; done) | (simp [h3_, h3__, h3q, h4_, h4__, h4q, h6, h6_]; omega))
        refine AW.wk [(0, AV.bool v6)] [] 1 (by simp [h3_, h3__, h3q, h4_, h4__, h4q, h6, h6_]) (by simp [h3_, h3__, h3q, h4_, h4__, h4q, h6, h6_]) (by simp) ?_
        simp only [Option.some.injEq] at hF
        subst hF
        refine AW.ret (hQ _ _ _ ?_ (matchO_0 ?_)).1
        · simp [Try.f48, h3_, h3__, h3q, h4_, h4__, h4q, h6, h6_]
        · simp [h3_, h3__, h3q, h4_, h4__, h4q, h6, h6_]
      · replace hF := ite_f h6 hF
        have h6_ := h6
        try simp at h6_
        try simp [h3_, h3__, h3q, h4_, h4__, h4q, h6, h6_]
        repeat' apply And.intro
        any_goals (first | exact hG8 _ (by kernel_rfl) | refine hR8 _ _ _ ?_ | omega | (unfold maxLen; omega) | (simp [h3_, h3__, h3q, h4_, h4__, h4q, h6, h6_]; done) | (simp [h3_, h3__, h3q, h4_, h4__, h4q, h6, h6_]; omega))
        refine AW.wk [(0, AV.bool false)] [] 1 (by simp [h3_, h3__, h3q, h4_, h4__, h4q, h6, h6_]) (by simp [h3_, h3__, h3q, h4_, h4__, h4q, h6, h6_]) (by simp) ?_
        simp only [Option.some.injEq] at hF
        subst hF
        refine AW.ret (hQ _ _ _ ?_ (matchO_0 ?_)).1
        · simp [Try.f48, h3_, h3__, h3q, h4_, h4__, h4q, h6, h6_]
        · simp [h3_, h3__, h3q, h4_, h4__, h4q, h6, h6_]
    · replace hF := ite_f h4 hF
      have h4_ := eqb_f h4
      have h4__ := neb_t h4
      try simp [h3_, h3__, h3q, h4, h4_, h4__]
      repeat' apply And.intro
      any_goals (first | exact hG8 _ (by kernel_rfl) | refine hR8 _ _ _ ?_ | omega | (unfold maxLen; omega) | (simp [h3_, h3__, h3q, h4, h4_, h4__]; done) | (simp [h3_, h3__, h3q, h4, h4_, h4__]; omega))
      refine AW.wk [(0, AV.bool false)] [] 1 (by simp [h3_, h3__, h3q, h4, h4_, h4__]) (by simp [h3_, h3__, h3q, h4, h4_, h4__]) (by simp) ?_
      simp only [Option.some.injEq] at hF
      subst hF
      refine AW.ret (hQ _ _ _ ?_ (matchO_0 ?_)).1
      · simp [Try.f48, h3_, h3__, h3q, h4, h4_, h4__]
      · simp [h3_, h3__, h3q, h4, h4_, h4__]
  · replace hF := ite_f h3 hF
    have h3_ := eqb_f h3
    have h3__ := neb_t h3
    try simp [h3, h3_, h3__]
    repeat' apply And.intro
    any_goals (first | exact hG8 _ (by kernel_rfl) | refine hR8 _ _ _ ?_ | omega | (unfold maxLen; omega) | (simp [h3, h3_, h3__]; done) | (simp [h3, h3_, h3__]; omega))
    refine AW.wk [(0, AV.bool false)] [] 1 (by simp [h3, h3_, h3__]) (by simp [h3, h3_, h3__]) (by simp) ?_
    simp only [Option.some.injEq] at hF
    subst hF
    refine AW.ret (hQ _ _ _ ?_ (matchO_0 ?_)).1
    · simp [Try.f48, h3, h3_, h3__]
    · simp [h3, h3_, h3__]
set_option maxHeartbeats 4000000 in
theorem w_ref24_Join (k : Nat) (v0 : (List Int)) (v1 : (List Int)) (v2 : (List Int)) (hF : ref24_Join k v0 v1 = some v2) :
    FCall Try.prog 53 [AV.lst false false (List.map (AV.int .i64) v0), AV.lst false false (List.map (AV.int .i64) v1)] [] (AV.slc 0 0 1 v2.length false) [some (.grow (List.map (AV.int .i64) v2))] := by
  unfold ref24_Join at hF
  refine FCall.enter Try.func53 rfl (by simp) (by decide) (by simp) (by simp) (by simp) (by simp) (by simp) ?_
  intro c0 w0 Q h0 hQ
  refine AW.wk [(0, AV.lst false false (List.map (AV.int .i64) v0)), (1, AV.lst false false (List.map (AV.int .i64) v1))] [] 0 (by simp) (by simp) (by simp) ?_
  refine AW.seqR mixed [] [none] (by kernel_rfl) fun G75 R75 hG75 hR75 => ?_
  try simp
  repeat' apply And.intro
  any_goals (first | exact hG75 _ (by kernel_rfl) | refine hR75 _ _ _ ?_ | omega | (unfold maxLen; omega) | (simp; done) | (simp; omega))
  refine AW.wk [(0, AV.lst false false (List.map (AV.int .i64) v0)), (1, AV.lst false false (List.map (AV.int .i64) v1))] [] 0 (by simp) (by simp) (by simp) ?_
  refine AW.seqR mixed [] [none] (by kernel_rfl) fun G76 R76 hG76 hR76 => ?_
  try simp
  repeat' apply And.intro
  any_goals (first | exact hG76 _ (by kernel_rfl) | refine hR76 _ _ _ ?_ | omega | (unfold maxLen; omega) | (simp; done) | (simp; omega))
  refine AW.wk [(0, AV.lst false false (List.map (AV.int .i64) v0)), (1, AV.lst false false (List.map (AV.int .i64) v1)), (5, AV.lst true true (List.map (AV.int .i64) ([] : List Int)))] [] 0 (by simp) (by simp) (by simp) ?_
  refine AW.seq fun K112 hK112 => ?_
  refine AW.seqR mixed [] [none] (by kernel_rfl) fun G113 R113 hG113 hR113 => ?_
  try simp
  repeat' apply And.intro
  any_goals (first | exact hG113 _ (by kernel_rfl) | refine hR113 _ _ _ ?_ | omega | (unfold maxLen; omega) | (simp; done) | (simp; omega))
  refine AW.wk [(0, AV.lst false false (List.map (AV.int .i64) v0)), (1, AV.lst false false (List.map (AV.int .i64) v1)), (5, AV.lst true true (List.map (AV.int .i64) ([] : List Int))), (6, AV.int .i64 0)] [] 0 (by simp) (by simp) (by simp) ?_
  refine AW.block ?_
  refine AW.own' 5 1 true (by simp) (by decide) ?_
  refine AW.loopF (α := (Int × (List Int))) (fun n (v3, v4) => ref24_Join.L1 k v0 v1 n v3 v4 = some v2) (fun (v3, v4) => [(0, AV.lst false false (List.map (AV.int .i64) v0)), (1, AV.lst false false (List.map (AV.int .i64) v1)), (5, AV.slc 0 0 1 v4.length false), (6, AV.int .i64 v3)]) (fun (v3, v4) => [(0, .grow (List.map (AV.int .i64) v4))]) 1 k ((0, ([] : List Int))) hF (by simp) (by simp) (by simp) ?_
  rintro (_|n1) ⟨v3, v4⟩ hF K136 hK136
  · try dsimp only at hF
    rw [ref24_Join.L1] at hF; cases hF
  try dsimp only at hF
  rw [ref24_Join.L1] at hF
  refine AW.seq fun K138 hK138 => ?_
  refine AW.seqR mixed [] [none, none] (by kernel_rfl) fun G139 R139 hG139 hR139 => ?_
  try simp
  repeat' apply And.intro
  any_goals (first | exact hG139 _ (by kernel_rfl) | refine hR139 _ _ _ ?_ | omega | (unfold maxLen; omega) | (simp; done) | (simp; omega))
  refine AW.wk [(0, AV.lst false false (List.map (AV.int .i64) v0)), (1, AV.lst false false (List.map (AV.int .i64) v1)), (5, AV.slc 0 0 1 v4.length false), (6, AV.int .i64 v3), (8, AV.bool (decide (v3 < 64)))] [(0, .grow (List.map (AV.int .i64) v4))] 1 (by simp) (by simp) (by simp) ?_
  by_cases h1 : v3 < 64
  · replace hF := ite_t h1 hF
    have h1_ := h1
    try simp at h1_
    refine AW.condT (by decide) (by first | (simp [h1, h1_]; done) | (simp [h1, h1_]; omega)) ?_
    refine AW.skip ?_
    refine hK138 _ _ _ ?_
    refine AW.midF (α := (List Int)) (fun v5 => ref24_Join.J2 k v3 (fun v3_ v4_ => ref24_Join.L1 k v0 v1 n1 v3_ v4_) v5 = some v2) (fun v5 => [(0, AV.lst false false (List.map (AV.int .i64) v0)), (1, AV.lst false false (List.map (AV.int .i64) v1)), (5, AV.slc 0 0 1 v5.length false), (6, AV.int .i64 v3)]) (fun v5 => [(0, .grow (List.map (AV.int .i64) v5))]) 1 (fun K144 hK144 => ?_) ?_
    · refine AW.block ?_
      refine AW.seqR mixed [] [none, none, none, none, some (14, false), some (14, false), some (14, false), none] (by kernel_rfl) fun G145 R145 hG145 hR145 => ?_
      try simp [h1, h1_]
      repeat' apply And.intro
      try any_goals (first | omega | (unfold maxLen; omega) | (simp [h1, h1_]; done))
      obtain ⟨v6, h2, hF⟩ := bnd1_elim hF
      refine aCall_l (w_ref24_Has k _ _ _ h2) (by simp) [] [] [] rfl (.cons (.same (by simp [h1, h1_])) (.cons (.same (by simp [h1, h1_])) .nil)) (by simp [h1, h1_]) (by decide) (by simp) (by simp) (.inl rfl) (by simp) (by simp) ?_
      by_cases h3 : v6 = true
      · replace hF := ite_t h3 hF
        have h3_ := h3
        try simp at h3_
        try simp [h1, h1_, h3, h3_]
        repeat' apply And.intro
        any_goals (first | exact hG145 _ (by kernel_rfl) | refine hR145 _ _ _ ?_ | omega | (unfold maxLen; omega) | (simp [h1, h1_, h3, h3_]; done) | (simp [h1, h1_, h3, h3_]; omega))
        refine AW.wk [(0, AV.lst false false (List.map (AV.int .i64) v0)), (1, AV.lst false false (List.map (AV.int .i64) v1)), (5, AV.slc 0 0 1 v4.length false), (6, AV.int .i64 v3), (18, AV.bool true)] [(0, .grow (List.map (AV.int .i64) v4))] 1 (by simp [h1, h1_, h3, h3_]) (by simp [h1, h1_, h3, h3_]) (by simp) ?_
        refine AW.condT (by decide) (by simp [h1, h1_, h3, h3_]) ?_
        refine AW.region mixed [] [none, none, none, none, none] (by kernel_rfl) fun G146 R146 hG146 hR146 => ?_
        obtain ⟨h4, hF⟩ := chk_elim hF
        have h4_ := h4
        try simp at h4_
        try simp [h1, h1_, h3, h3_, h4]
        repeat' apply And.intro
        any_goals (first | exact hG146 _ (by kernel_rfl) | refine hR146 _ _ _ ?_ | omega | (unfold maxLen; omega) | (simp [h1, h1_, h3, h3_, h4]; done) | (simp [h1, h1_, h3, h3_, h4]; omega))
        refine hK144 _ _ _ ?_
        refine Can.weak [(0, AV.lst false false (List.map (AV.int .i64) v0)), (1, AV.lst false false (List.map (AV.int .i64) v1)), (5, AV.slc 1 0 1 ((v4 ++ ([v3] : List Int)).length) false), (6, AV.int .i64 v3)] [(1, .grow (List.map (AV.int .i64) (v4 ++ ([v3] : List Int))))] 2 (by simp [h1, h1_, h3, h3_, h4]) (by simp [h1, h1_, h3, h3_, h4]) (by simp) ?_
        refine Can.ren (m := 0) h0 [(0, 1)] [(0, AV.lst false false (List.map (AV.int .i64) v0)), (1, AV.lst false false (List.map (AV.int .i64) v1)), (5, AV.slc 0 0 1 ((v4 ++ ([v3] : List Int)).length) false), (6, AV.int .i64 v3)] [(0, .grow (List.map (AV.int .i64) (v4 ++ ([v3] : List Int))))] 1 (by decide) (by decide) (by decide) rfl (by simp [h1, h1_, h3, h3_, h4]) (by simp [h1, h1_, h3, h3_, h4]) ?_
        exact Can.join (v4 ++ ([v3] : List Int)) hF (by simp [h1, h1_, h3, h3_, h4]) (by simp [h1, h1_, h3, h3_, h4]) (by simp)
      · replace hF := ite_f h3 hF
        have h3_ := h3
        try simp at h3_
        try simp [h1, h1_, h3, h3_]
        repeat' apply And.intro
        try any_goals (first | omega | (unfold maxLen; omega) | (simp [h1, h1_, h3, h3_]; done))
        obtain ⟨v7, h5, hF⟩ := bnd1_elim hF
        refine aCall_l (w_ref24_Has k _ _ _ h5) (by simp) [] [] [] rfl (.cons (.same (by simp [h1, h1_, h3, h3_])) (.cons (.same (by simp [h1, h1_, h3, h3_])) .nil)) (by simp [h1, h1_, h3, h3_]) (by decide) (by simp) (by simp) (.inl rfl) (by simp) (by simp) ?_
        try simp [h1, h1_, h3, h3_]
        repeat' apply And.intro
        any_goals (first | exact hG145 _ (by kernel_rfl) | refine hR145 _ _ _ ?_ | omega | (unfold maxLen; omega) | (simp [h1, h1_, h3, h3_]; done) | (simp [h1, h1_, h3, h3_]; omega))
        refine AW.wk [(0, AV.lst false false (List.map (AV.int .i64) v0)), (1, AV.lst false false (List.map (AV.int .i64) v1)), (5, AV.slc 0 0 1 v4.length false), (6, AV.int .i64 v3), (18, AV.bool v7)] [(0, .grow (List.map (AV.int .i64) v4))] 1 (by simp [h1, h1_, h3, h3_]) (by simp [h1, h1_, h3, h3_]) (by simp) ?_
        by_cases h6 : v7 = true
        · replace hF := ite_t h6 hF
          have h6_ := h6
          try simp at h6_
          refine AW.condT (by decide) (by first | (simp [h1, h1_, h3, h3_, h6, h6_]; done) | (simp [h1, h1_, h3, h3_, h6, h6_]; omega)) ?_
          refine AW.region mixed [] [none, none, none, none, none] (by kernel_rfl) fun G147 R147 hG147 hR147 => ?_
          obtain ⟨h7, hF⟩ := chk_elim hF
          have h7_ := h7
          try simp at h7_
          try simp [h1, h1_, h3, h3_, h6, h6_, h7]
          repeat' apply And.intro
          any_goals (first | exact hG147 _ (by kernel_rfl) | refine hR147 _ _ _ ?_ | omega | (unfold maxLen; omega) | (simp [h1, h1_, h3, h3_, h6, h6_, h7]; done) | (simp [h1, h1_, h3, h3_, h6, h6_, h7]; omega))
          refine hK144 _ _ _ ?_
          refine Can.weak [(0, AV.lst false false (List.map (AV.int .i64) v0)), (1, AV.lst false false (List.map (AV.int .i64) v1)), (5, AV.slc 1 0 1 ((v4 ++ ([v3] : List Int)).length) false), (6, AV.int .i64 v3)] [(1, .grow (List.map (AV.int .i64) (v4 ++ ([v3] : List Int))))] 2 (by simp [h1, h1_, h3, h3_, h6, h6_, h7]) (by simp [h1, h1_, h3, h3_, h6, h6_, h7]) (by simp) ?_
          refine Can.ren (m := 0) h0 [(0, 1)] [(0, AV.lst false false (List.map (AV.int .i64) v0)), (1, AV.lst false false (List.map (AV.int .i64) v1)), (5, AV.slc 0 0 1 ((v4 ++ ([v3] : List Int)).length) false), (6, AV.int .i64 v3)] [(0, .grow (List.map (AV.int .i64) (v4 ++ ([v3] : List Int))))] 1 (by decide) (by decide) (by decide) rfl (by simp [h1, h1_, h3, h3_, h6, h6_, h7]) (by simp [h1, h1_, h3, h3_, h6, h6_, h7]) ?_
          exact Can.join (v4 ++ ([v3] : List Int)) hF (by simp [h1, h1_, h3, h3_, h6, h6_, h7]) (by simp [h1, h1_, h3, h3_, h6, h6_, h7]) (by simp)
        · replace hF := ite_f h6 hF
          have h6_ := h6
          try simp at h6_
          refine AW.condF (by decide) (by first | (simp [h1, h1_, h3, h3_, h6, h6_]; done) | (simp [h1, h1_, h3, h3_, h6, h6_]; omega)) ?_
          refine AW.skip ?_
          refine hK144 _ _ _ ?_
          exact Can.join (v4) hF (by simp [h1, h1_, h3, h3_, h6, h6_]) (by simp [h1, h1_, h3, h3_, h6, h6_]) (by simp)
    · rintro v5 hF
      try dsimp only at hF
      unfold ref24_Join.J2 at hF
      refine AW.region mixed [] [none, none, none] (by kernel_rfl) fun G143 R143 hG143 hR143 => ?_
      try simp [h1, h1_]
      repeat' apply And.intro
      any_goals (first | exact hG143 _ (by kernel_rfl) | refine hR143 _ _ _ ?_ | omega | (unfold maxLen; omega) | (simp [h1, h1_]; done) | (simp [h1, h1_]; omega))
      refine hK136 _ _ _ ?_
      refine Can.weak [(0, AV.lst false false (List.map (AV.int .i64) v0)), (1, AV.lst false false (List.map (AV.int .i64) v1)), (5, AV.slc 0 0 1 v5.length false), (6, AV.int .i64 (IntKind.wrap .i64 (v3 + 1)))] [(0, .grow (List.map (AV.int .i64) v5))] 1 (by simp [h1, h1_]) (by simp [h1, h1_]) (by simp) ?_
      exact Can.next (k' := n1) ((IntKind.wrap .i64 (v3 + 1), v5)) (by omega) hF (by simp [h1, h1_]) (by simp [h1, h1_]) (by simp)
  · replace hF := ite_f h1 hF
    have h1_ := h1
    try simp at h1_
    refine AW.condF (by decide) (by first | (simp [h1, h1_]; done) | (simp [h1, h1_]; omega)) ?_
    refine AW.exit ?_
    try simp
    refine hK112 _ _ _ ?_
    refine AW.seqR mixed [] [none, none] (by kernel_rfl) fun G148 R148 hG148 hR148 => ?_
    try simp [h1, h1_]
    repeat' apply And.intro
    any_goals (first | exact hG148 _ (by kernel_rfl) | refine hR148 _ _ _ ?_ | omega | (unfold maxLen; omega) | (simp [h1, h1_]; done) | (simp [h1, h1_]; omega))
    refine AW.wk [(4, AV.slc 0 0 1 v4.length false)] [(0, .grow (List.map (AV.int .i64) v4))] 1 (by simp [h1, h1_]) (by simp [h1, h1_]) (by simp) ?_
    simp only [Option.some.injEq] at hF
    subst hF
    refine AW.ret (hQ _ _ _ ?_ (matchO_0 ?_)).1
    · simp [Try.f53, h1, h1_]
    · simp [h1, h1_]
end Go.TF
