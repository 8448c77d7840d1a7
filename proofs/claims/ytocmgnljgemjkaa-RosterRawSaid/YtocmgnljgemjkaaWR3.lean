/- Walks: the Go text computes the Lean functions (printed by a program of our own). -/
import Derived.Test.YtocmgnljgemjkaaPu
import Derived.Test.YtocmgnljgemjkaaAbsT
import Derived.Test.YtocmgnljgemjkaaWa0
import Derived.Test.YtocmgnljgemjkaaWR1
import Derived.Test.YtocmgnljgemjkaaWR2
set_option linter.unusedVariables false
set_option linter.unusedSimpArgs false
set_option maxRecDepth 100000
namespace Go.TF
open Go Go.Abs Go.Proofs Go.Proofs.YtocmgnljgemjkaaT
set_option maxHeartbeats 4000000 in
theorem w_roster_Join_1 (k : Nat) (v0 : Int) (v1 : (List Bool)) (v2 : (List Bool)) (v3 : Bool) (hF : roster_Join_1 k v0 v1 v2 = some v3) :
    FCall Try.prog 93 [AV.int .i64 v0, AV.ptr 0 0, AV.ptr 1 0] [.cells (List.map AV.bool v1), .cells (List.map AV.bool v2)] (AV.bool v3) [some (.cells (List.map AV.bool v1)), some (.cells (List.map AV.bool v2))] := by
  unfold roster_Join_1 at hF
  refine FCall.enter Try.func93 rfl (by simp) (by decide) (by simp) (by simp) (by simp) (by simp) (by simp) ?_
  intro c0 w0 Q h0 hQ
  refine AW.wk [(0, AV.int .i64 v0), (1, AV.ptr 0 0), (2, AV.ptr 1 0)] [(0, .cells (List.map AV.bool v1)), (1, .cells (List.map AV.bool v2))] 2 (by simp) (by simp) (by simp) ?_
  refine AW.seqR mixed [] [none] (by kernel_rfl) fun G3 R3 hG3 hR3 => ?_
  try simp
  repeat' apply And.intro
  any_goals (first | exact hG3 _ (by kernel_rfl) | refine hR3 _ _ _ ?_ | omega | (unfold maxLen; omega) | (simp; done) | (simp; omega))
  refine AW.wk [(0, AV.int .i64 v0), (1, AV.ptr 0 0), (2, AV.ptr 1 0)] [(0, .cells (List.map AV.bool v1)), (1, .cells (List.map AV.bool v2))] 2 (by simp) (by simp) (by simp) ?_
  refine AW.seqR mixed [] [none, none, none, none, some (8, false), some (8, false), some (8, false), none, none] (by kernel_rfl) fun G4 R4 hG4 hR4 => ?_
  obtain ⟨⟨h1, h3, h2⟩, hF⟩ := chk_elim hF
  have h2_ := ne_of_lt h2
  obtain ⟨v4, h4, h5, h6, hF⟩ := idx_elim hF
  have h6_ := get_of h6
  try simp at h6_
  have h5_ := h5
  try simp at h5_
  by_cases h7 : v4 = true
  · replace hF := ite_t h7 hF
    have h7_ := h7
    try simp at h7_
    try simp [h1, h2, h3, h2_, h4, h5, h6, h6_, h5_, h7, h7_]
    repeat' apply And.intro
    any_goals (first | exact hG4 _ (by kernel_rfl) | refine hR4 _ _ _ ?_ | omega | (unfold maxLen; omega) | (simp [h1, h2, h3, h2_, h4, h5, h6, h6_, h5_, h7, h7_]; done) | (simp [h1, h2, h3, h2_, h4, h5, h6, h6_, h5_, h7, h7_]; omega))
    refine AW.wk [(4, AV.bool true)] [(0, .cells (List.map AV.bool v1)), (1, .cells (List.map AV.bool v2))] 2 (by simp [h1, h2, h3, h2_, h4, h5, h6, h6_, h5_, h7, h7_]) (by simp [h1, h2, h3, h2_, h4, h5, h6, h6_, h5_, h7, h7_]) (by simp) ?_
    simp only [Option.some.injEq] at hF
    subst hF
    refine AW.ret (hQ _ _ _ ?_ (matchO_0 ?_)).1
    · simp [Try.f93, h1, h2, h3, h2_, h4, h5, h6, h6_, h5_, h7, h7_]
    · simp [h1, h2, h3, h2_, h4, h5, h6, h6_, h5_, h7, h7_]
  · replace hF := ite_f h7 hF
    have h7_ := h7
    try simp at h7_
    obtain ⟨⟨h8, h10, h9⟩, hF⟩ := chk_elim hF
    have h9_ := ne_of_lt h9
    obtain ⟨v5, h11, h12, h13, hF⟩ := idx_elim hF
    have h13_ := get_of h13
    try simp at h13_
    have h12_ := h12
    try simp at h12_
    try simp [h1, h2, h3, h2_, h4, h5, h6, h6_, h5_, h7, h7_, h8, h9, h10, h9_, h11, h12, h13, h13_, h12_]
    repeat' apply And.intro
    any_goals (first | exact hG4 _ (by kernel_rfl) | refine hR4 _ _ _ ?_ | omega | (unfold maxLen; omega) | (simp [h1, h2, h3, h2_, h4, h5, h6, h6_, h5_, h7, h7_, h8, h9, h10, h9_, h11, h12, h13, h13_, h12_]; done) | (simp [h1, h2, h3, h2_, h4, h5, h6, h6_, h5_, h7, h7_, h8, h9, h10, h9_, h11, h12, h13, h13_, h12_]; omega))
    refine AW.wk [(4, AV.bool v5)] [(0, .cells (List.map AV.bool v1)), (1, .cells (List.map AV.bool v2))] 2 (by simp [h1, h2, h3, h2_, h4, h5, h6, h6_, h5_, h7, h7_, h8, h9, h10, h9_, h11, h12, h13, h13_, h12_]) (by simp [h1, h2, h3, h2_, h4, h5, h6, h6_, h5_, h7, h7_, h8, h9, h10, h9_, h11, h12, h13, h13_, h12_]) (by simp) ?_
    simp only [Option.some.injEq] at hF
    subst hF
    refine AW.ret (hQ _ _ _ ?_ (matchO_0 ?_)).1
    · simp [Try.f93, h1, h2, h3, h2_, h4, h5, h6, h6_, h5_, h7, h7_, h8, h9, h10, h9_, h11, h12, h13, h13_, h12_]
    · simp [h1, h2, h3, h2_, h4, h5, h6, h6_, h5_, h7, h7_, h8, h9, h10, h9_, h11, h12, h13, h13_, h12_]
set_option maxHeartbeats 4000000 in
theorem w_roster_keys_Join_1 (k : Nat) (v0 : (List Bool)) (v1 : (List Bool)) (v2 : (List Int)) (hF : roster_keys_Join_1 k v0 v1 = some v2) :
    FCall Try.prog 92 [AV.fn 93 [AV.ptr 0 0, AV.ptr 1 0]] [.cells (List.map AV.bool v0), .cells (List.map AV.bool v1)] (AV.slc 2 0 1 v2.length false) [some (.cells (List.map AV.bool v0)), some (.cells (List.map AV.bool v1)), some (.grow (List.map (AV.int .i64) v2))] := by
  unfold roster_keys_Join_1 at hF
  refine FCall.enter Try.func92 rfl (by simp) (by decide) (by simp) (by simp) (by simp) (by simp) (by simp) ?_
  intro c0 w0 Q h0 hQ
  refine AW.wk [(0, AV.fn 93 [AV.ptr 0 0, AV.ptr 1 0])] [(0, .cells (List.map AV.bool v0)), (1, .cells (List.map AV.bool v1))] 2 (by simp) (by simp) (by simp) ?_
  refine AW.seqR mixed [] [none] (by kernel_rfl) fun G69 R69 hG69 hR69 => ?_
  try simp
  repeat' apply And.intro
  any_goals (first | exact hG69 _ (by kernel_rfl) | refine hR69 _ _ _ ?_ | omega | (unfold maxLen; omega) | (simp; done) | (simp; omega))
  refine AW.wk [(0, AV.fn 93 [AV.ptr 0 0, AV.ptr 1 0])] [(0, .cells (List.map AV.bool v0)), (1, .cells (List.map AV.bool v1))] 2 (by simp) (by simp) (by simp) ?_
  refine AW.seqR mixed [] [none] (by kernel_rfl) fun G70 R70 hG70 hR70 => ?_
  try simp
  repeat' apply And.intro
  any_goals (first | exact hG70 _ (by kernel_rfl) | refine hR70 _ _ _ ?_ | omega | (unfold maxLen; omega) | (simp; done) | (simp; omega))
  refine AW.wk [(0, AV.fn 93 [AV.ptr 0 0, AV.ptr 1 0]), (3, AV.lst true true (List.map (AV.int .i64) ([] : List Int)))] [(0, .cells (List.map AV.bool v0)), (1, .cells (List.map AV.bool v1))] 2 (by simp) (by simp) (by simp) ?_
  refine AW.seq fun K103 hK103 => ?_
  refine AW.seqR mixed [] [none] (by kernel_rfl) fun G104 R104 hG104 hR104 => ?_
  try simp
  repeat' apply And.intro
  any_goals (first | exact hG104 _ (by kernel_rfl) | refine hR104 _ _ _ ?_ | omega | (unfold maxLen; omega) | (simp; done) | (simp; omega))
  refine AW.wk [(0, AV.fn 93 [AV.ptr 0 0, AV.ptr 1 0]), (3, AV.lst true true (List.map (AV.int .i64) ([] : List Int))), (5, AV.int .i64 0)] [(0, .cells (List.map AV.bool v0)), (1, .cells (List.map AV.bool v1))] 2 (by simp) (by simp) (by simp) ?_
  refine AW.block ?_
  refine AW.own' 3 1 true (by simp) (by decide) ?_
  refine AW.loopF (α := (Int × (List Int))) (fun n (v3, v4) => roster_keys_Join_1.L1 k v0 v1 n v3 v4 = some v2) (fun (v3, v4) => [(0, AV.fn 93 [AV.ptr 0 0, AV.ptr 1 0]), (3, AV.slc 2 0 1 v4.length false), (5, AV.int .i64 v3)]) (fun (v3, v4) => [(0, .cells (List.map AV.bool v0)), (1, .cells (List.map AV.bool v1)), (2, .grow (List.map (AV.int .i64) v4))]) 3 k ((0, ([] : List Int))) hF (by simp) (by simp) (by simp) ?_
  rintro (_|n1) ⟨v3, v4⟩ hF K125 hK125
  · try dsimp only at hF
    rw [roster_keys_Join_1.L1] at hF; cases hF
  try dsimp only at hF
  rw [roster_keys_Join_1.L1] at hF
  refine AW.seqR mixed [] [none] (by kernel_rfl) fun G126 R126 hG126 hR126 => ?_
  try simp
  repeat' apply And.intro
  any_goals (first | exact hG126 _ (by kernel_rfl) | refine hR126 _ _ _ ?_ | omega | (unfold maxLen; omega) | (simp; done) | (simp; omega))
  refine AW.wk [(0, AV.fn 93 [AV.ptr 0 0, AV.ptr 1 0]), (3, AV.slc 2 0 1 v4.length false), (5, AV.int .i64 v3), (6, AV.bool (decide (v3 < 64)))] [(0, .cells (List.map AV.bool v0)), (1, .cells (List.map AV.bool v1)), (2, .grow (List.map (AV.int .i64) v4))] 3 (by simp) (by simp) (by simp) ?_
  refine AW.seq fun K127 hK127 => ?_
  by_cases h1 : v3 < 64
  · replace hF := ite_t h1 hF
    have h1_ := h1
    try simp at h1_
    refine AW.condT (by decide) (by first | (simp [h1, h1_]; done) | (simp [h1, h1_]; omega)) ?_
    refine AW.skip ?_
    refine hK127 _ _ _ ?_
    refine AW.midF (α := (List Int)) (fun v5 => roster_keys_Join_1.J2 k v3 (fun v3_ v4_ => roster_keys_Join_1.L1 k v0 v1 n1 v3_ v4_) v5 = some v2) (fun v5 => [(0, AV.fn 93 [AV.ptr 0 0, AV.ptr 1 0]), (3, AV.slc 2 0 1 v5.length false), (5, AV.int .i64 v3)]) (fun v5 => [(0, .cells (List.map AV.bool v0)), (1, .cells (List.map AV.bool v1)), (2, .grow (List.map (AV.int .i64) v5))]) 3 (fun K132 hK132 => ?_) ?_
    · refine AW.block ?_
      refine AW.seqR mixed [] [none, none] (by kernel_rfl) fun G133 R133 hG133 hR133 => ?_
      try simp [h1, h1_]
      repeat' apply And.intro
      any_goals (first | exact hG133 _ (by kernel_rfl) | refine hR133 _ _ _ ?_ | omega | (unfold maxLen; omega) | (simp [h1, h1_]; done) | (simp [h1, h1_]; omega))
      refine AW.wk [(0, AV.fn 93 [AV.ptr 0 0, AV.ptr 1 0]), (3, AV.slc 2 0 1 v4.length false), (4, AV.int .i64 v3), (5, AV.int .i64 v3)] [(0, .cells (List.map AV.bool v0)), (1, .cells (List.map AV.bool v1)), (2, .grow (List.map (AV.int .i64) v4))] 3 (by simp [h1, h1_]) (by simp [h1, h1_]) (by simp) ?_
      refine AW.seqR mixed [] [none, none, none] (by kernel_rfl) fun G134 R134 hG134 hR134 => ?_
      try simp [h1, h1_]
      repeat' apply And.intro
      try any_goals (first | omega | (unfold maxLen; omega) | (simp [h1, h1_]; done))
      obtain ⟨v6, h2, hF⟩ := bnd1_elim hF
      refine aCall_l (w_roster_Join_1 k _ _ _ _ h2) (by simp) [0, 1] [] [] rfl (.cons (.same (by simp [h1, h1_])) (.cons (.same (by simp [h1, h1_])) (.cons (.same (by simp [h1, h1_])) .nil))) (by simp [h1, h1_]) (by decide) (by simp) (by simp) (.inl rfl) (by simp) (by simp) ?_
      try simp [h1, h1_]
      repeat' apply And.intro
      any_goals (first | exact hG134 _ (by kernel_rfl) | refine hR134 _ _ _ ?_ | omega | (unfold maxLen; omega) | (simp [h1, h1_]; done) | (simp [h1, h1_]; omega))
      refine AW.wk [(0, AV.fn 93 [AV.ptr 0 0, AV.ptr 1 0]), (3, AV.slc 2 0 1 v4.length false), (4, AV.int .i64 v3), (5, AV.int .i64 v3), (10, AV.bool v6)] [(0, .cells (List.map AV.bool v0)), (1, .cells (List.map AV.bool v1)), (2, .grow (List.map (AV.int .i64) v4))] 3 (by simp [h1, h1_]) (by simp [h1, h1_]) (by simp) ?_
      by_cases h3 : v6 = true
      · replace hF := ite_t h3 hF
        have h3_ := h3
        try simp at h3_
        refine AW.condT (by decide) (by first | (simp [h1, h1_, h3, h3_]; done) | (simp [h1, h1_, h3, h3_]; omega)) ?_
        refine AW.region mixed [] [none, none, none, none, none] (by kernel_rfl) fun G135 R135 hG135 hR135 => ?_
        obtain ⟨h4, hF⟩ := chk_elim hF
        have h4_ := h4
        try simp at h4_
        try simp [h1, h1_, h3, h3_, h4]
        repeat' apply And.intro
        any_goals (first | exact hG135 _ (by kernel_rfl) | refine hR135 _ _ _ ?_ | omega | (unfold maxLen; omega) | (simp [h1, h1_, h3, h3_, h4]; done) | (simp [h1, h1_, h3, h3_, h4]; omega))
        refine hK132 _ _ _ ?_
        refine Can.weak [(0, AV.fn 93 [AV.ptr 0 0, AV.ptr 1 0]), (3, AV.slc 3 0 1 ((v4 ++ ([v3] : List Int)).length) false), (5, AV.int .i64 v3)] [(0, .cells (List.map AV.bool v0)), (1, .cells (List.map AV.bool v1)), (3, .grow (List.map (AV.int .i64) (v4 ++ ([v3] : List Int))))] 4 (by simp [h1, h1_, h3, h3_, h4]) (by simp [h1, h1_, h3, h3_, h4]) (by simp) ?_
        refine Can.ren (m := 2) h0 [(0, 0), (1, 1), (2, 3)] [(0, AV.fn 93 [AV.ptr 0 0, AV.ptr 1 0]), (3, AV.slc 2 0 1 ((v4 ++ ([v3] : List Int)).length) false), (5, AV.int .i64 v3)] [(0, .cells (List.map AV.bool v0)), (1, .cells (List.map AV.bool v1)), (2, .grow (List.map (AV.int .i64) (v4 ++ ([v3] : List Int))))] 3 (by decide) (by decide) (by decide) rfl (by simp [h1, h1_, h3, h3_, h4]) (by simp [h1, h1_, h3, h3_, h4]) ?_
        exact Can.join (v4 ++ ([v3] : List Int)) hF (by simp [h1, h1_, h3, h3_, h4]) (by simp [h1, h1_, h3, h3_, h4]) (by simp)
      · replace hF := ite_f h3 hF
        have h3_ := h3
        try simp at h3_
        refine AW.condF (by decide) (by first | (simp [h1, h1_, h3, h3_]; done) | (simp [h1, h1_, h3, h3_]; omega)) ?_
        refine AW.skip ?_
        refine hK132 _ _ _ ?_
        exact Can.join (v4) hF (by simp [h1, h1_, h3, h3_]) (by simp [h1, h1_, h3, h3_]) (by simp)
    · rintro v5 hF
      try dsimp only at hF
      unfold roster_keys_Join_1.J2 at hF
      refine AW.region mixed [] [none, none] (by kernel_rfl) fun G131 R131 hG131 hR131 => ?_
      try simp [h1, h1_]
      repeat' apply And.intro
      any_goals (first | exact hG131 _ (by kernel_rfl) | refine hR131 _ _ _ ?_ | omega | (unfold maxLen; omega) | (simp [h1, h1_]; done) | (simp [h1, h1_]; omega))
      refine hK125 _ _ _ ?_
      refine Can.weak [(0, AV.fn 93 [AV.ptr 0 0, AV.ptr 1 0]), (3, AV.slc 2 0 1 v5.length false), (5, AV.int .i64 (IntKind.wrap .i64 (v3 + 1)))] [(0, .cells (List.map AV.bool v0)), (1, .cells (List.map AV.bool v1)), (2, .grow (List.map (AV.int .i64) v5))] 3 (by simp [h1, h1_]) (by simp [h1, h1_]) (by simp) ?_
      exact Can.next (k' := n1) ((IntKind.wrap .i64 (v3 + 1), v5)) (by omega) hF (by simp [h1, h1_]) (by simp [h1, h1_]) (by simp)
  · replace hF := ite_f h1 hF
    have h1_ := h1
    try simp at h1_
    refine AW.condF (by decide) (by first | (simp [h1, h1_]; done) | (simp [h1, h1_]; omega)) ?_
    refine AW.exit ?_
    try simp
    refine hK103 _ _ _ ?_
    refine AW.seqR mixed [] [none, none] (by kernel_rfl) fun G136 R136 hG136 hR136 => ?_
    try simp [h1, h1_]
    repeat' apply And.intro
    any_goals (first | exact hG136 _ (by kernel_rfl) | refine hR136 _ _ _ ?_ | omega | (unfold maxLen; omega) | (simp [h1, h1_]; done) | (simp [h1, h1_]; omega))
    refine AW.wk [(2, AV.slc 2 0 1 v4.length false)] [(0, .cells (List.map AV.bool v0)), (1, .cells (List.map AV.bool v1)), (2, .grow (List.map (AV.int .i64) v4))] 3 (by simp [h1, h1_]) (by simp [h1, h1_]) (by simp) ?_
    simp only [Option.some.injEq] at hF
    subst hF
    refine AW.ret (hQ _ _ _ ?_ (matchO_0 ?_)).1
    · simp [Try.f92, h1, h1_]
    · simp [h1, h1_]
set_option maxHeartbeats 4000000 in
theorem w_roster_Join (k : Nat) (v0 : (List Int)) (v1 : (List Int)) (v2 : (List Int)) (hF : roster_Join k v0 v1 = some v2) :
    FCall Try.prog 66 [AV.lst false false (List.map (AV.int .i64) v0), AV.lst false false (List.map (AV.int .i64) v1)] [] (AV.slc 0 0 1 v2.length false) [some (.grow (List.map (AV.int .i64) v2))] := by
  unfold roster_Join at hF
  refine FCall.enter Try.func66 rfl (by simp) (by decide) (by simp) (by simp) (by simp) (by simp) (by simp) ?_
  intro c0 w0 Q h0 hQ
  refine AW.wk [(0, AV.lst false false (List.map (AV.int .i64) v0)), (1, AV.lst false false (List.map (AV.int .i64) v1))] [] 0 (by simp) (by simp) (by simp) ?_
  refine AW.seqR mixed [] [none] (by kernel_rfl) fun G4 R4 hG4 hR4 => ?_
  try simp
  repeat' apply And.intro
  any_goals (first | exact hG4 _ (by kernel_rfl) | refine hR4 _ _ _ ?_ | omega | (unfold maxLen; omega) | (simp; done) | (simp; omega))
  refine AW.wk [(0, AV.lst false false (List.map (AV.int .i64) v0)), (1, AV.lst false false (List.map (AV.int .i64) v1))] [] 0 (by simp) (by simp) (by simp) ?_
  refine AW.seqR mixed [] [none, none, none, none, none, none, none, none] (by kernel_rfl) fun G5 R5 hG5 hR5 => ?_
  try simp
  repeat' apply And.intro
  try any_goals (first | omega | (unfold maxLen; omega) | (simp; done))
  obtain ⟨v3, h1, hF⟩ := bnd1_elim hF
  refine aCall_l (w_roster_of k _ _ h1) (by simp) [] [] [] rfl (.cons (.same (by simp)) .nil) (by simp) (by decide) (by simp) (by simp) (.inl rfl) (by simp) (by simp) ?_
  try simp
  repeat' apply And.intro
  try any_goals (first | omega | (unfold maxLen; omega) | (simp; done))
  obtain ⟨v4, h2, hF⟩ := bnd1_elim hF
  refine aCall_l (w_roster_of k _ _ h2) (by simp) [] [] [] rfl (.cons (.same (by simp)) .nil) (by simp) (by decide) (by simp) (by simp) (.inl rfl) (by simp) (by simp) ?_
  obtain ⟨h3, hF⟩ := chk_elim hF
  obtain ⟨h4, hF⟩ := chk_elim hF
  try simp [h3, h4]
  repeat' apply And.intro
  any_goals (first | exact hG5 _ (by kernel_rfl) | refine hR5 _ _ _ ?_ | omega | (unfold maxLen; omega) | (simp [h3, h4]; done) | (simp [h3, h4]; omega))
  refine AW.wk [(5, AV.ptr 0 0), (6, AV.ptr 1 0)] [(0, .cells (List.map AV.bool v3)), (1, .cells (List.map AV.bool v4))] 2 (by simp [h3, h4]) (by simp [h3, h4]) (by simp) ?_
  refine AW.seqR mixed [] [none, none, none] (by kernel_rfl) fun G6 R6 hG6 hR6 => ?_
  try simp [h3, h4]
  repeat' apply And.intro
  try any_goals (first | omega | (unfold maxLen; omega) | (simp [h3, h4]; done))
  obtain ⟨v5, h5, hF⟩ := bnd1_elim hF
  refine aCall_l (w_roster_keys_Join_1 k _ _ _ h5) (by simp) [0, 1] [] [] rfl (.cons (.same (by simp [h3, h4])) .nil) (by simp [h3, h4]) (by decide) (by simp) (by simp) (.inl rfl) (by simp) (by simp) ?_
  try simp [h3, h4]
  repeat' apply And.intro
  any_goals (first | exact hG6 _ (by kernel_rfl) | refine hR6 _ _ _ ?_ | omega | (unfold maxLen; omega) | (simp [h3, h4]; done) | (simp [h3, h4]; omega))
  refine AW.wk [(4, AV.slc 2 0 1 v5.length false)] [(2, .grow (List.map (AV.int .i64) v5))] 3 (by simp [h3, h4]) (by simp [h3, h4]) (by simp) ?_
  refine AW.rnm (m := 0) h0 [(0, 2)] [(4, AV.slc 0 0 1 v5.length false)] [(0, .grow (List.map (AV.int .i64) v5))] 1 (by decide) (by decide) (by decide) rfl (by simp [h3, h4]) (by simp [h3, h4]) ?_
  simp only [Option.some.injEq] at hF
  subst hF
  refine AW.ret (hQ _ _ _ ?_ (matchO_0 ?_)).1
  · simp [Try.f66, h3, h4]
  · simp [h3, h4]
set_option maxHeartbeats 4000000 in
theorem w_roster_Minus_1 (k : Nat) (v0 : Int) (v1 : (List Bool)) (v2 : (List Bool)) (v3 : Bool) (hF : roster_Minus_1 k v0 v1 v2 = some v3) :
    FCall Try.prog 94 [AV.int .i64 v0, AV.ptr 0 0, AV.ptr 1 0] [.cells (List.map AV.bool v1), .cells (List.map AV.bool v2)] (AV.bool v3) [some (.cells (List.map AV.bool v1)), some (.cells (List.map AV.bool v2))] := by
  unfold roster_Minus_1 at hF
  refine FCall.enter Try.func94 rfl (by simp) (by decide) (by simp) (by simp) (by simp) (by simp) (by simp) ?_
  intro c0 w0 Q h0 hQ
  refine AW.wk [(0, AV.int .i64 v0), (1, AV.ptr 0 0), (2, AV.ptr 1 0)] [(0, .cells (List.map AV.bool v1)), (1, .cells (List.map AV.bool v2))] 2 (by simp) (by simp) (by simp) ?_
  refine AW.seqR mixed [] [none] (by kernel_rfl) fun G3 R3 hG3 hR3 => ?_
  try simp
  repeat' apply And.intro
  any_goals (first | exact hG3 _ (by kernel_rfl) | refine hR3 _ _ _ ?_ | omega | (unfold maxLen; omega) | (simp; done) | (simp; omega))
  refine AW.wk [(0, AV.int .i64 v0), (1, AV.ptr 0 0), (2, AV.ptr 1 0)] [(0, .cells (List.map AV.bool v1)), (1, .cells (List.map AV.bool v2))] 2 (by simp) (by simp) (by simp) ?_
  refine AW.seqR mixed [] [none, none, none, none, some (8, true), some (8, true), some (8, true), some (8, true), none, none] (by kernel_rfl) fun G4 R4 hG4 hR4 => ?_
  obtain ⟨⟨h1, h3, h2⟩, hF⟩ := chk_elim hF
  have h2_ := ne_of_lt h2
  obtain ⟨v4, h4, h5, h6, hF⟩ := idx_elim hF
  have h6_ := get_of h6
  try simp at h6_
  have h5_ := h5
  try simp at h5_
  by_cases h7 : v4 = true
  · replace hF := ite_t h7 hF
    have h7_ := h7
    try simp at h7_
    obtain ⟨⟨h8, h10, h9⟩, hF⟩ := chk_elim hF
    have h9_ := ne_of_lt h9
    obtain ⟨v5, h11, h12, h13, hF⟩ := idx_elim hF
    have h13_ := get_of h13
    try simp at h13_
    have h12_ := h12
    try simp at h12_
    try simp [h1, h2, h3, h2_, h4, h5, h6, h6_, h5_, h7, h7_, h8, h9, h10, h9_, h11, h12, h13, h13_, h12_]
    repeat' apply And.intro
    any_goals (first | exact hG4 _ (by kernel_rfl) | refine hR4 _ _ _ ?_ | omega | (unfold maxLen; omega) | (simp [h1, h2, h3, h2_, h4, h5, h6, h6_, h5_, h7, h7_, h8, h9, h10, h9_, h11, h12, h13, h13_, h12_]; done) | (simp [h1, h2, h3, h2_, h4, h5, h6, h6_, h5_, h7, h7_, h8, h9, h10, h9_, h11, h12, h13, h13_, h12_]; omega))
    refine AW.wk [(4, AV.bool (!v5))] [(0, .cells (List.map AV.bool v1)), (1, .cells (List.map AV.bool v2))] 2 (by simp [h1, h2, h3, h2_, h4, h5, h6, h6_, h5_, h7, h7_, h8, h9, h10, h9_, h11, h12, h13, h13_, h12_]) (by simp [h1, h2, h3, h2_, h4, h5, h6, h6_, h5_, h7, h7_, h8, h9, h10, h9_, h11, h12, h13, h13_, h12_]) (by simp) ?_
    simp only [Option.some.injEq] at hF
    subst hF
    refine AW.ret (hQ _ _ _ ?_ (matchO_0 ?_)).1
    · simp [Try.f94, h1, h2, h3, h2_, h4, h5, h6, h6_, h5_, h7, h7_, h8, h9, h10, h9_, h11, h12, h13, h13_, h12_]
    · simp [h1, h2, h3, h2_, h4, h5, h6, h6_, h5_, h7, h7_, h8, h9, h10, h9_, h11, h12, h13, h13_, h12_]
  · replace hF := ite_f h7 hF
    have h7_ := h7
    try simp at h7_
    try simp [h1, h2, h3, h2_, h4, h5, h6, h6_, h5_, h7, h7_]
    repeat' apply And.intro
    any_goals (first | exact hG4 _ (by kernel_rfl) | refine hR4 _ _ _ ?_ | omega | (unfold maxLen; omega) | (simp [h1, h2, h3, h2_, h4, h5, h6, h6_, h5_, h7, h7_]; done) | (simp [h1, h2, h3, h2_, h4, h5, h6, h6_, h5_, h7, h7_]; omega))
    refine AW.wk [(4, AV.bool false)] [(0, .cells (List.map AV.bool v1)), (1, .cells (List.map AV.bool v2))] 2 (by simp [h1, h2, h3, h2_, h4, h5, h6, h6_, h5_, h7, h7_]) (by simp [h1, h2, h3, h2_, h4, h5, h6, h6_, h5_, h7, h7_]) (by simp) ?_
    simp only [Option.some.injEq] at hF
    subst hF
    refine AW.ret (hQ _ _ _ ?_ (matchO_0 ?_)).1
    · simp [Try.f94, h1, h2, h3, h2_, h4, h5, h6, h6_, h5_, h7, h7_]
    · simp [h1, h2, h3, h2_, h4, h5, h6, h6_, h5_, h7, h7_]
set_option maxHeartbeats 4000000 in
theorem w_roster_keys_Minus_1 (k : Nat) (v0 : (List Bool)) (v1 : (List Bool)) (v2 : (List Int)) (hF : roster_keys_Minus_1 k v0 v1 = some v2) :
    FCall Try.prog 92 [AV.fn 94 [AV.ptr 0 0, AV.ptr 1 0]] [.cells (List.map AV.bool v0), .cells (List.map AV.bool v1)] (AV.slc 2 0 1 v2.length false) [some (.cells (List.map AV.bool v0)), some (.cells (List.map AV.bool v1)), some (.grow (List.map (AV.int .i64) v2))] := by
  unfold roster_keys_Minus_1 at hF
  refine FCall.enter Try.func92 rfl (by simp) (by decide) (by simp) (by simp) (by simp) (by simp) (by simp) ?_
  intro c0 w0 Q h0 hQ
  refine AW.wk [(0, AV.fn 94 [AV.ptr 0 0, AV.ptr 1 0])] [(0, .cells (List.map AV.bool v0)), (1, .cells (List.map AV.bool v1))] 2 (by simp) (by simp) (by simp) ?_
  refine AW.seqR mixed [] [none] (by kernel_rfl) fun G69 R69 hG69 hR69 => ?_
  try simp
  repeat' apply And.intro
  any_goals (first | exact hG69 _ (by kernel_rfl) | refine hR69 _ _ _ ?_ | omega | (unfold maxLen; omega) | (simp; done) | (simp; omega))
  refine AW.wk [(0, AV.fn 94 [AV.ptr 0 0, AV.ptr 1 0])] [(0, .cells (List.map AV.bool v0)), (1, .cells (List.map AV.bool v1))] 2 (by simp) (by simp) (by simp) ?_
  refine AW.seqR mixed [] [none] (by kernel_rfl) fun G70 R70 hG70 hR70 => ?_
  try simp
  repeat' apply And.intro
  any_goals (first | exact hG70 _ (by kernel_rfl) | refine hR70 _ _ _ ?_ | omega | (unfold maxLen; omega) | (simp; done) | (simp; omega))
  refine AW.wk [(0, AV.fn 94 [AV.ptr 0 0, AV.ptr 1 0]), (3, AV.lst true true (List.map (AV.int .i64) ([] : List Int)))] [(0, .cells (List.map AV.bool v0)), (1, .cells (List.map AV.bool v1))] 2 (by simp) (by simp) (by simp) ?_
  refine AW.seq fun K103 hK103 => ?_
  refine AW.seqR mixed [] [none] (by kernel_rfl) fun G104 R104 hG104 hR104 => ?_
  try simp
  repeat' apply And.intro
  any_goals (first | exact hG104 _ (by kernel_rfl) | refine hR104 _ _ _ ?_ | omega | (unfold maxLen; omega) | (simp; done) | (simp; omega))
  refine AW.wk [(0, AV.fn 94 [AV.ptr 0 0, AV.ptr 1 0]), (3, AV.lst true true (List.map (AV.int .i64) ([] : List Int))), (5, AV.int .i64 0)] [(0, .cells (List.map AV.bool v0)), (1, .cells (List.map AV.bool v1))] 2 (by simp) (by simp) (by simp) ?_
  refine AW.block ?_
  refine AW.own' 3 1 true (by simp) (by decide) ?_
  refine AW.loopF (α := (Int × (List Int))) (fun n (v3, v4) => roster_keys_Minus_1.L1 k v0 v1 n v3 v4 = some v2) (fun (v3, v4) => [(0, AV.fn 94 [AV.ptr 0 0, AV.ptr 1 0]), (3, AV.slc 2 0 1 v4.length false), (5, AV.int .i64 v3)]) (fun (v3, v4) => [(0, .cells (List.map AV.bool v0)), (1, .cells (List.map AV.bool v1)), (2, .grow (List.map (AV.int .i64) v4))]) 3 k ((0, ([] : List Int))) hF (by simp) (by simp) (by simp) ?_
  rintro (_|n1) ⟨v3, v4⟩ hF K125 hK125
  · try dsimp only at hF
    rw [roster_keys_Minus_1.L1] at hF; cases hF
  try dsimp only at hF
  rw [roster_keys_Minus_1.L1] at hF
  refine AW.seqR mixed [] [none] (by kernel_rfl) fun G126 R126 hG126 hR126 => ?_
  try simp
  repeat' apply And.intro
  any_goals (first | exact hG126 _ (by kernel_rfl) | refine hR126 _ _ _ ?_ | omega | (unfold maxLen; omega) | (simp; done) | (simp; omega))
  refine AW.wk [(0, AV.fn 94 [AV.ptr 0 0, AV.ptr 1 0]), (3, AV.slc 2 0 1 v4.length false), (5, AV.int .i64 v3), (6, AV.bool (decide (v3 < 64)))] [(0, .cells (List.map AV.bool v0)), (1, .cells (List.map AV.bool v1)), (2, .grow (List.map (AV.int .i64) v4))] 3 (by simp) (by simp) (by simp) ?_
  refine AW.seq fun K127 hK127 => ?_
  by_cases h1 : v3 < 64
  · replace hF := ite_t h1 hF
    have h1_ := h1
    try simp at h1_
    refine AW.condT (by decide) (by first | (simp [h1, h1_]; done) | (simp [h1, h1_]; omega)) ?_
    refine AW.skip ?_
    refine hK127 _ _ _ ?_
    refine AW.midF (α := (List Int)) (fun v5 => roster_keys_Minus_1.J2 k v3 (fun v3_ v4_ => roster_keys_Minus_1.L1 k v0 v1 n1 v3_ v4_) v5 = some v2) (fun v5 => [(0, AV.fn 94 [AV.ptr 0 0, AV.ptr 1 0]), (3, AV.slc 2 0 1 v5.length false), (5, AV.int .i64 v3)]) (fun v5 => [(0, .cells (List.map AV.bool v0)), (1, .cells (List.map AV.bool v1)), (2, .grow (List.map (AV.int .i64) v5))]) 3 (fun K132 hK132 => ?_) ?_
    · refine AW.block ?_
      refine AW.seqR mixed [] [none, none] (by kernel_rfl) fun G133 R133 hG133 hR133 => ?_
      try simp [h1, h1_]
      repeat' apply And.intro
      any_goals (first | exact hG133 _ (by kernel_rfl) | refine hR133 _ _ _ ?_ | omega | (unfold maxLen; omega) | (simp [h1, h1_]; done) | (simp [h1, h1_]; omega))
      refine AW.wk [(0, AV.fn 94 [AV.ptr 0 0, AV.ptr 1 0]), (3, AV.slc 2 0 1 v4.length false), (4, AV.int .i64 v3), (5, AV.int .i64 v3)] [(0, .cells (List.map AV.bool v0)), (1, .cells (List.map AV.bool v1)), (2, .grow (List.map (AV.int .i64) v4))] 3 (by simp [h1, h1_]) (by simp [h1, h1_]) (by simp) ?_
      refine AW.seqR mixed [] [none, none, none] (by kernel_rfl) fun G134 R134 hG134 hR134 => ?_
      try simp [h1, h1_]
      repeat' apply And.intro
      try any_goals (first | omega | (unfold maxLen; omega) | (simp [h1, h1_]; done))
      obtain ⟨v6, h2, hF⟩ := bnd1_elim hF
      refine aCall_l (w_roster_Minus_1 k _ _ _ _ h2) (by simp) [0, 1] [] [] rfl (.cons (.same (by simp [h1, h1_])) (.cons (.same (by simp [h1, h1_])) (.cons (.same (by simp [h1, h1_])) .nil))) (by simp [h1, h1_]) (by decide) (by simp) (by simp) (.inl rfl) (by simp) (by simp) ?_
      try simp [h1, h1_]
      repeat' apply And.intro
      any_goals (first | exact hG134 _ (by kernel_rfl) | refine hR134 _ _ _ ?_ | omega | (unfold maxLen; omega) | (simp [h1, h1_]; done) | (simp [h1, h1_]; omega))
      refine AW.wk [(0, AV.fn 94 [AV.ptr 0 0, AV.ptr 1 0]), (3, AV.slc 2 0 1 v4.length false), (4, AV.int .i64 v3), (5, AV.int .i64 v3), (10, AV.bool v6)] [(0, .cells (List.map AV.bool v0)), (1, .cells (List.map AV.bool v1)), (2, .grow (List.map (AV.int .i64) v4))] 3 (by simp [h1, h1_]) (by simp [h1, h1_]) (by simp) ?_
      by_cases h3 : v6 = true
      · replace hF := ite_t h3 hF
        have h3_ := h3
        try simp at h3_
        refine AW.condT (by decide) (by first | (simp [h1, h1_, h3, h3_]; done) | (simp [h1, h1_, h3, h3_]; omega)) ?_
        refine AW.region mixed [] [none, none, none, none, none] (by kernel_rfl) fun G135 R135 hG135 hR135 => ?_
        obtain ⟨h4, hF⟩ := chk_elim hF
        have h4_ := h4
        try simp at h4_
        try simp [h1, h1_, h3, h3_, h4]
        repeat' apply And.intro
        any_goals (first | exact hG135 _ (by kernel_rfl) | refine hR135 _ _ _ ?_ | omega | (unfold maxLen; omega) | (simp [h1, h1_, h3, h3_, h4]; done) | (simp [h1, h1_, h3, h3_, h4]; omega))
        refine hK132 _ _ _ ?_
        refine Can.weak [(0, AV.fn 94 [AV.ptr 0 0, AV.ptr 1 0]), (3, AV.slc 3 0 1 ((v4 ++ ([v3] : List Int)).length) false), (5, AV.int .i64 v3)] [(0, .cells (List.map AV.bool v0)), (1, .cells (List.map AV.bool v1)), (3, .grow (List.map (AV.int .i64) (v4 ++ ([v3] : List Int))))] 4 (by simp [h1, h1_, h3, h3_, h4]) (by simp [h1, h1_, h3, h3_, h4]) (by simp) ?_
        refine Can.ren (m := 2) h0 [(0, 0), (1, 1), (2, 3)] [(0, AV.fn 94 [AV.ptr 0 0, AV.ptr 1 0]), (3, AV.slc 2 0 1 ((v4 ++ ([v3] : List Int)).length) false), (5, AV.int .i64 v3)] [(0, .cells (List.map AV.bool v0)), (1, .cells (List.map AV.bool v1)), (2, .grow (List.map (AV.int .i64) (v4 ++ ([v3] : List Int))))] 3 (by decide) (by decide) (by decide) rfl (by simp [h1, h1_, h3, h3_, h4]) (by simp [h1, h1_, h3, h3_, h4]) ?_
        exact Can.join (v4 ++ ([v3] : List Int)) hF (by simp [h1, h1_, h3, h3_, h4]) (by simp [h1, h1_, h3, h3_, h4]) (by simp)
      · replace hF := ite_f h3 hF
        have h3_ := h3
        try simp at h3_
        refine AW.condF (by decide) (by first | (simp [h1, h1_, h3, h3_]; done) | (simp [h1, h1_, h3, h3_]; omega)) ?_
        refine AW.skip ?_
        refine hK132 _ _ _ ?_
        exact Can.join (v4) hF (by simp [h1, h1_, h3, h3_]) (by simp [h1, h1_, h3, h3_]) (by simp)
    · rintro v5 hF
      try dsimp only at hF
      unfold roster_keys_Minus_1.J2 at hF
      refine AW.region mixed [] [none, none] (by kernel_rfl) fun G131 R131 hG131 hR131 => ?_
      try simp [h1, h1_]
      repeat' apply And.intro
      any_goals (first | exact hG131 _ (by kernel_rfl) | refine hR131 _ _ _ ?_ | omega | (unfold maxLen; omega) | (simp [h1, h1_]; done) | (simp [h1, h1_]; omega))
      refine hK125 _ _ _ ?_
      refine Can.weak [(0, AV.fn 94 [AV.ptr 0 0, AV.ptr 1 0]), (3, AV.slc 2 0 1 v5.length false), (5, AV.int .i64 (IntKind.wrap .i64 (v3 + 1)))] [(0, .cells (List.map AV.bool v0)), (1, .cells (List.map AV.bool v1)), (2, .grow (List.map (AV.int .i64) v5))] 3 (by simp [h1, h1_]) (by simp [h1, h1_]) (by simp) ?_
      exact Can.next (k' := n1) ((IntKind.wrap .i64 (v3 + 1), v5)) (by omega) hF (by simp [h1, h1_]) (by simp [h1, h1_]) (by simp)
  · replace hF := ite_f h1 hF
    have h1_ := h1
    try simp at h1_
    refine AW.condF (by decide) (by first | (simp [h1, h1_]; done) | (simp [h1, h1_]; omega)) ?_
    refine AW.exit ?_
    try simp
    refine hK103 _ _ _ ?_
    refine AW.seqR mixed [] [none, none] (by kernel_rfl) fun G136 R136 hG136 hR136 => ?_
    try simp [h1, h1_]
    repeat' apply And.intro
    any_goals (first | exact hG136 _ (by kernel_rfl) | refine hR136 _ _ _ ?_ | omega | (unfold maxLen; omega) | (simp [h1, h1_]; done) | (simp [h1, h1_]; omega))
    refine AW.wk [(2, AV.slc 2 0 1 v4.length false)] [(0, .cells (List.map AV.bool v0)), (1, .cells (List.map AV.bool v1)), (2, .grow (List.map (AV.int .i64) v4))] 3 (by simp [h1, h1_]) (by simp [h1, h1_]) (by simp) ?_
    simp only [Option.some.injEq] at hF
    subst hF
    refine AW.ret (hQ _ _ _ ?_ (matchO_0 ?_)).1
    · simp [Try.f92, h1, h1_]
    · simp [h1, h1_]
set_option maxHeartbeats 4000000 in
theorem w_roster_Minus (k : Nat) (v0 : (List Int)) (v1 : (List Int)) (v2 : (List Int)) (hF : roster_Minus k v0 v1 = some v2) :
    FCall Try.prog 67 [AV.lst false false (List.map (AV.int .i64) v0), AV.lst false false (List.map (AV.int .i64) v1)] [] (AV.slc 0 0 1 v2.length false) [some (.grow (List.map (AV.int .i64) v2))] := by
  unfold roster_Minus at hF
  refine FCall.enter Try.func67 rfl (by simp) (by decide) (by simp) (by simp) (by simp) (by simp) (by simp) ?_
  intro c0 w0 Q h0 hQ
  refine AW.wk [(0, AV.lst false false (List.map (AV.int .i64) v0)), (1, AV.lst false false (List.map (AV.int .i64) v1))] [] 0 (by simp) (by simp) (by simp) ?_
  refine AW.seqR mixed [] [none] (by kernel_rfl) fun G4 R4 hG4 hR4 => ?_
  try simp
  repeat' apply And.intro
  any_goals (first | exact hG4 _ (by kernel_rfl) | refine hR4 _ _ _ ?_ | omega | (unfold maxLen; omega) | (simp; done) | (simp; omega))
  refine AW.wk [(0, AV.lst false false (List.map (AV.int .i64) v0)), (1, AV.lst false false (List.map (AV.int .i64) v1))] [] 0 (by simp) (by simp) (by simp) ?_
  refine AW.seqR mixed [] [none, none, none, none, none, none, none, none] (by kernel_rfl) fun G5 R5 hG5 hR5 => ?_
  try simp
  repeat' apply And.intro
  try any_goals (first | omega | (unfold maxLen; omega) | (simp; done))
  obtain ⟨v3, h1, hF⟩ := bnd1_elim hF
  refine aCall_l (w_roster_of k _ _ h1) (by simp) [] [] [] rfl (.cons (.same (by simp)) .nil) (by simp) (by decide) (by simp) (by simp) (.inl rfl) (by simp) (by simp) ?_
  try simp
  repeat' apply And.intro
  try any_goals (first | omega | (unfold maxLen; omega) | (simp; done))
  obtain ⟨v4, h2, hF⟩ := bnd1_elim hF
  refine aCall_l (w_roster_of k _ _ h2) (by simp) [] [] [] rfl (.cons (.same (by simp)) .nil) (by simp) (by decide) (by simp) (by simp) (.inl rfl) (by simp) (by simp) ?_
  obtain ⟨h3, hF⟩ := chk_elim hF
  obtain ⟨h4, hF⟩ := chk_elim hF
  try simp [h3, h4]
  repeat' apply And.intro
  any_goals (first | exact hG5 _ (by kernel_rfl) | refine hR5 _ _ _ ?_ | omega | (unfold maxLen; omega) | (simp [h3, h4]; done) | (simp [h3, h4]; omega))
  refine AW.wk [(5, AV.ptr 0 0), (6, AV.ptr 1 0)] [(0, .cells (List.map AV.bool v3)), (1, .cells (List.map AV.bool v4))] 2 (by simp [h3, h4]) (by simp [h3, h4]) (by simp) ?_
  refine AW.seqR mixed [] [none, none, none] (by kernel_rfl) fun G6 R6 hG6 hR6 => ?_
  try simp [h3, h4]
  repeat' apply And.intro
  try any_goals (first | omega | (unfold maxLen; omega) | (simp [h3, h4]; done))
  obtain ⟨v5, h5, hF⟩ := bnd1_elim hF
  refine aCall_l (w_roster_keys_Minus_1 k _ _ _ h5) (by simp) [0, 1] [] [] rfl (.cons (.same (by simp [h3, h4])) .nil) (by simp [h3, h4]) (by decide) (by simp) (by simp) (.inl rfl) (by simp) (by simp) ?_
  try simp [h3, h4]
  repeat' apply And.intro
  any_goals (first | exact hG6 _ (by kernel_rfl) | refine hR6 _ _ _ ?_ | omega | (unfold maxLen; omega) | (simp [h3, h4]; done) | (simp [h3, h4]; omega))
  refine AW.wk [(4, AV.slc 2 0 1 v5.length false)] [(2, .grow (List.map (AV.int .i64) v5))] 3 (by simp [h3, h4]) (by simp [h3, h4]) (by simp) ?_
  refine AW.rnm (m := 0) h0 [(0, 2)] [(4, AV.slc 0 0 1 v5.length false)] [(0, .grow (List.map (AV.int .i64) v5))] 1 (by decide) (by decide) (by decide) rfl (by simp [h3, h4]) (by simp [h3, h4]) ?_
  simp only [Option.some.injEq] at hF
  subst hF
  refine AW.ret (hQ _ _ _ ?_ (matchO_0 ?_)).1
  · simp [Try.f67, h3, h4]
  · simp [h3, h4]
set_option maxHeartbeats 4000000 in
theorem w_ref24_Encode (k : Nat) (v0 : (List Int)) (v1 : (List Int)) (v2 : Int) (hF : ref24_Encode k v0 = some (v1, v2)) :
    FCall Try.prog 68 [AV.lst false false (List.map (AV.int .i64) v0)] [] (AV.tup [AV.lst false false (List.map (AV.int .i64) v1), AV.int .i64 v2]) [] := by
  unfold ref24_Encode at hF
  refine FCall.enter Try.func68 rfl (by simp) (by decide) (by simp) (by simp) (by simp) (by simp) (by simp) ?_
  intro c0 w0 Q h0 hQ
  refine AW.wk [(0, AV.lst false false (List.map (AV.int .i64) v0))] [] 0 (by simp) (by simp) (by simp) ?_
  refine AW.seqR mixed [] [none, none] (by kernel_rfl) fun G56 R56 hG56 hR56 => ?_
  try simp
  repeat' apply And.intro
  any_goals (first | exact hG56 _ (by kernel_rfl) | refine hR56 _ _ _ ?_ | omega | (unfold maxLen; omega) | (simp; done) | (simp; omega))
  refine AW.wk [(0, AV.lst false false (List.map (AV.int .i64) v0))] [] 0 (by simp) (by simp) (by simp) ?_
  refine AW.seq fun K59 hK59 => ?_
  refine AW.seqR mixed [] [none, none, none] (by kernel_rfl) fun G60 R60 hG60 hR60 => ?_
  try simp
  repeat' apply And.intro
  try any_goals (first | omega | (unfold maxLen; omega) | (simp; done))
  obtain ⟨v3, h1, hF⟩ := bnd1_elim hF
  refine aCall_l (w_ref24_Valid k _ _ h1) (by simp) [] [] [] rfl (.cons (.same (by simp)) .nil) (by simp) (by decide) (by simp) (by simp) (.inl rfl) (by simp) (by simp) ?_
  try simp
  repeat' apply And.intro
  any_goals (first | exact hG60 _ (by kernel_rfl) | refine hR60 _ _ _ ?_ | omega | (unfold maxLen; omega) | (simp; done) | (simp; omega))
  refine AW.wk [(0, AV.lst false false (List.map (AV.int .i64) v0)), (8, AV.bool (!v3))] [] 0 (by simp) (by simp) (by simp) ?_
  by_cases h2 : (!v3) = true
  · replace hF := ite_t h2 hF
    have h2_ := h2
    try simp at h2_
    refine AW.condT (by decide) (by first | (simp [h2, h2_]; done) | (simp [h2, h2_]; omega)) ?_
    refine AW.seqR mixed [] [none, none] (by kernel_rfl) fun G61 R61 hG61 hR61 => ?_
    try simp [h2, h2_]
    repeat' apply And.intro
    any_goals (first | exact hG61 _ (by kernel_rfl) | refine hR61 _ _ _ ?_ | omega | (unfold maxLen; omega) | (simp [h2, h2_]; done) | (simp [h2, h2_]; omega))
    refine AW.wk [(2, AV.lst true true (List.map (AV.int .i64) ([] : List Int))), (3, AV.int .i64 43)] [] 0 (by simp [h2, h2_]) (by simp [h2, h2_]) (by simp) ?_
    refine AW.flg [(2, AV.lst false false (List.map (AV.int .i64) ([] : List Int)))] [] ⟨(.lst (by simp)), trivial⟩ trivial (by simp) ?_
    simp only [Option.some.injEq, Prod.mk.injEq] at hF
    obtain ⟨e0, e1⟩ := hF
    subst e0 e1
    refine AW.ret (hQ _ _ _ ?_ (matchO_0 ?_)).1
    · simp [Try.f68, h2, h2_]
    · simp [h2, h2_]
  · replace hF := ite_f h2 hF
    have h2_ := h2
    try simp at h2_
    refine AW.condF (by decide) (by first | (simp [h2, h2_]; done) | (simp [h2, h2_]; omega)) ?_
    refine AW.skip ?_
    refine hK59 _ _ _ ?_
    refine AW.seqR mixed [9] [none, none] (by kernel_rfl) fun G62 R62 hG62 hR62 => ?_
    try simp [h2, h2_]
    repeat' apply And.intro
    any_goals (first | exact hG62 _ (by kernel_rfl) | refine hR62 _ _ _ ?_ | omega | (unfold maxLen; omega) | (simp [h2, h2_]; done) | (simp [h2, h2_]; omega))
    refine AW.wk [(0, AV.lst false false (List.map (AV.int .i64) v0)), (4, AV.slc 0 0 1 (([0, 0] : List Int).length) true)] [(0, .cells (List.map (AV.int .i64) ([0, 0] : List Int)))] 1 (by simp [h2, h2_]) (by simp [h2, h2_]) (by simp) ?_
    refine AW.seq fun K86 hK86 => ?_
    refine AW.seqR mixed [] [none] (by kernel_rfl) fun G87 R87 hG87 hR87 => ?_
    try simp [h2, h2_]
    repeat' apply And.intro
    any_goals (first | exact hG87 _ (by kernel_rfl) | refine hR87 _ _ _ ?_ | omega | (unfold maxLen; omega) | (simp [h2, h2_]; done) | (simp [h2, h2_]; omega))
    refine AW.wk [(0, AV.lst false false (List.map (AV.int .i64) v0)), (4, AV.slc 0 0 1 (([0, 0] : List Int).length) true), (5, AV.int .i64 0)] [(0, .cells (List.map (AV.int .i64) ([0, 0] : List Int)))] 1 (by simp [h2, h2_]) (by simp [h2, h2_]) (by simp) ?_
    refine AW.block ?_
    refine AW.loopF (α := (Int × (List Int))) (fun n (v4, v5) => ref24_Encode.L1 k v0 n v4 v5 = some (v1, v2)) (fun (v4, v5) => [(0, AV.lst false false (List.map (AV.int .i64) v0)), (4, AV.slc 0 0 1 v5.length true), (5, AV.int .i64 v4)]) (fun (v4, v5) => [(0, .cells (List.map (AV.int .i64) v5))]) 1 k ((0, ([0, 0] : List Int))) hF (by simp [h2, h2_]) (by simp [h2, h2_]) (by simp) ?_
    rintro (_|n1) ⟨v4, v5⟩ hF K102 hK102
    · try dsimp only at hF
      rw [ref24_Encode.L1] at hF; cases hF
    try dsimp only at hF
    rw [ref24_Encode.L1] at hF
    refine AW.seq fun K104 hK104 => ?_
    refine AW.seqR mixed [] [none, none, none, none] (by kernel_rfl) fun G105 R105 hG105 hR105 => ?_
    try simp [h2, h2_]
    repeat' apply And.intro
    any_goals (first | exact hG105 _ (by kernel_rfl) | refine hR105 _ _ _ ?_ | omega | (unfold maxLen; omega) | (simp [h2, h2_]; done) | (simp [h2, h2_]; omega))
    refine AW.wk [(0, AV.lst false false (List.map (AV.int .i64) v0)), (4, AV.slc 0 0 1 v5.length true), (5, AV.int .i64 v4), (13, AV.bool (decide (v4 < (v0.length : Int))))] [(0, .cells (List.map (AV.int .i64) v5))] 1 (by simp [h2, h2_]) (by simp [h2, h2_]) (by simp) ?_
    by_cases h3 : v4 < (v0.length : Int)
    · replace hF := ite_t h3 hF
      have h3_ := h3
      try simp at h3_
      refine AW.condT (by decide) (by first | (simp [h2, h2_, h3, h3_]; done) | (simp [h2, h2_, h3, h3_]; omega)) ?_
      refine AW.skip ?_
      refine hK104 _ _ _ ?_
      refine AW.seq fun K107 hK107 => ?_
      refine AW.block ?_
      refine AW.region mixed [] [none, none, none, none, none, none, none, none, none, none, none, none, none, none, none, none, none, none, none, none, none, none, none, none] (by kernel_rfl) fun G108 R108 hG108 hR108 => ?_
      obtain ⟨v6, h4, h5, h6, hF⟩ := idx_elim hF
      have h6_ := get_of h6
      try simp at h6_
      have h5_ := h5
      try simp at h5_
      obtain ⟨⟨h7, h8⟩, hF⟩ := chk_elim hF
      have h8_ := ne_of_lt h8
      obtain ⟨v7, h9, h10, h11, hF⟩ := idx_elim hF
      have h11_ := get_of h11
      try simp at h11_
      have h10_ := h10
      try simp at h10_
      obtain ⟨h12, hF⟩ := chk_elim hF
      obtain ⟨⟨h13, h14⟩, hF⟩ := chk_elim hF
      have h14_ := ne_of_lt h14
      try simp [h2, h2_, h3, h3_, h4, h5, h6, h6_, h5_, h7, h8, h8_, h9, h10, h11, h11_, h10_, h12, h13, h14, h14_]
      repeat' apply And.intro
      any_goals (first | exact hG108 _ (by kernel_rfl) | refine hR108 _ _ _ ?_ | omega | (unfold maxLen; omega) | (simp [h2, h2_, h3, h3_, h4, h5, h6, h6_, h5_, h7, h8, h8_, h9, h10, h11, h11_, h10_, h12, h13, h14, h14_]; done) | (simp [h2, h2_, h3, h3_, h4, h5, h6, h6_, h5_, h7, h8, h8_, h9, h10, h11, h11_, h10_, h12, h13, h14, h14_]; omega))
      refine hK107 _ _ _ ?_
      refine AW.wk [(0, AV.lst false false (List.map (AV.int .i64) v0)), (4, AV.slc 0 0 1 ((v5.set (IntKind.wrap .i64 (Int.tdiv v6 32)).toNat (bitsV .or .i64 v7 (IntKind.wrap .i64 (1 * 2 ^ (min ((IntKind.wrap .u64 (Int.tmod v6 32)).toNat) 64))))).length) true), (5, AV.int .i64 v4)] [(0, .cells (List.map (AV.int .i64) (v5.set (IntKind.wrap .i64 (Int.tdiv v6 32)).toNat (bitsV .or .i64 v7 (IntKind.wrap .i64 (1 * 2 ^ (min ((IntKind.wrap .u64 (Int.tmod v6 32)).toNat) 64)))))))] 1 (by simp [h2, h2_, h3, h3_, h4, h5, h6, h6_, h5_, h7, h8, h8_, h9, h10, h11, h11_, h10_, h12, h13, h14, h14_]) (by simp [h2, h2_, h3, h3_, h4, h5, h6, h6_, h5_, h7, h8, h8_, h9, h10, h11, h11_, h10_, h12, h13, h14, h14_]) (by simp) ?_
      refine AW.region mixed [] [none, none, none] (by kernel_rfl) fun G109 R109 hG109 hR109 => ?_
      try simp [h2, h2_, h3, h3_, h4, h5, h6, h6_, h5_, h7, h8, h8_, h9, h10, h11, h11_, h10_, h12, h13, h14, h14_]
      repeat' apply And.intro
      any_goals (first | exact hG109 _ (by kernel_rfl) | refine hR109 _ _ _ ?_ | omega | (unfold maxLen; omega) | (simp [h2, h2_, h3, h3_, h4, h5, h6, h6_, h5_, h7, h8, h8_, h9, h10, h11, h11_, h10_, h12, h13, h14, h14_]; done) | (simp [h2, h2_, h3, h3_, h4, h5, h6, h6_, h5_, h7, h8, h8_, h9, h10, h11, h11_, h10_, h12, h13, h14, h14_]; omega))
      refine hK102 _ _ _ ?_
      refine Can.weak [(0, AV.lst false false (List.map (AV.int .i64) v0)), (4, AV.slc 0 0 1 ((v5.set (IntKind.wrap .i64 (Int.tdiv v6 32)).toNat (bitsV .or .i64 v7 (IntKind.wrap .i64 (1 * 2 ^ (min ((IntKind.wrap .u64 (Int.tmod v6 32)).toNat) 64))))).length) true), (5, AV.int .i64 (IntKind.wrap .i64 (v4 + 1)))] [(0, .cells (List.map (AV.int .i64) (v5.set (IntKind.wrap .i64 (Int.tdiv v6 32)).toNat (bitsV .or .i64 v7 (IntKind.wrap .i64 (1 * 2 ^ (min ((IntKind.wrap .u64 (Int.tmod v6 32)).toNat) 64)))))))] 1 (by simp [h2, h2_, h3, h3_, h4, h5, h6, h6_, h5_, h7, h8, h8_, h9, h10, h11, h11_, h10_, h12, h13, h14, h14_]) (by simp [h2, h2_, h3, h3_, h4, h5, h6, h6_, h5_, h7, h8, h8_, h9, h10, h11, h11_, h10_, h12, h13, h14, h14_]) (by simp) ?_
      exact Can.next (k' := n1) ((IntKind.wrap .i64 (v4 + 1), v5.set (IntKind.wrap .i64 (Int.tdiv v6 32)).toNat (bitsV .or .i64 v7 (IntKind.wrap .i64 (1 * 2 ^ (min ((IntKind.wrap .u64 (Int.tmod v6 32)).toNat) 64)))))) (by omega) hF (by simp [h2, h2_, h3, h3_, h4, h5, h6, h6_, h5_, h7, h8, h8_, h9, h10, h11, h11_, h10_, h12, h13, h14, h14_]) (by simp [h2, h2_, h3, h3_, h4, h5, h6, h6_, h5_, h7, h8, h8_, h9, h10, h11, h11_, h10_, h12, h13, h14, h14_]) (by simp)
    · replace hF := ite_f h3 hF
      have h3_ := h3
      try simp at h3_
      refine AW.condF (by decide) (by first | (simp [h2, h2_, h3, h3_]; done) | (simp [h2, h2_, h3, h3_]; omega)) ?_
      refine AW.exit ?_
      try simp
      refine hK86 _ _ _ ?_
      refine AW.seqR mixed [] [none, none, none] (by kernel_rfl) fun G110 R110 hG110 hR110 => ?_
      try simp [h2, h2_, h3, h3_]
      repeat' apply And.intro
      any_goals (first | exact hG110 _ (by kernel_rfl) | refine hR110 _ _ _ ?_ | omega | (unfold maxLen; omega) | (simp [h2, h2_, h3, h3_]; done) | (simp [h2, h2_, h3, h3_]; omega))
      refine AW.wk [(2, AV.slc 0 0 1 v5.length true), (3, AV.int .i64 0)] [(0, .cells (List.map (AV.int .i64) v5))] 1 (by simp [h2, h2_, h3, h3_]) (by simp [h2, h2_, h3, h3_]) (by simp) ?_
      refine AW.wk [(2, AV.slc 0 0 1 v5.length true), (3, AV.int .i64 0)] [(0, .cells (List.map (AV.int .i64) v5))] 1 (by simp [h2, h2_, h3, h3_]) (by simp [h2, h2_, h3, h3_]) (by simp) ?_
      refine AW.frz 0 (o := .cells (List.map (AV.int .i64) v5)) (by simp [h2, h2_, h3, h3_]) rfl [(2, AV.lst false true (List.map (AV.int .i64) v5))] [] ⟨(.l (by simp) (by simp) (by simp) (by simp)), trivial⟩ trivial ?_
      refine AW.flg [(2, AV.lst false false (List.map (AV.int .i64) v5))] [] ⟨(.lst (by simp)), trivial⟩ trivial (by simp) ?_
      simp only [Option.some.injEq, Prod.mk.injEq] at hF
      obtain ⟨e0, e1⟩ := hF
      subst e0 e1
      refine AW.ret (hQ _ _ _ ?_ (matchO_0 ?_)).1
      · simp [Try.f68, h2, h2_, h3, h3_]
      · simp [h2, h2_, h3, h3_]
set_option maxHeartbeats 4000000 in
theorem w_ref24_Decode (k : Nat) (v0 : (List Int)) (v1 : (List Int)) (v2 : Int) (hF : ref24_Decode k v0 = some (v1, v2)) :
    FCall Try.prog 69 [AV.lst false false (List.map (AV.int .i64) v0)] [] (AV.tup [AV.slc 0 0 1 v1.length false, AV.int .i64 v2]) [some (.grow (List.map (AV.int .i64) v1))] := by
  unfold ref24_Decode at hF
  refine FCall.enter Try.func69 rfl (by simp) (by decide) (by simp) (by simp) (by simp) (by simp) (by simp) ?_
  intro c0 w0 Q h0 hQ
  refine AW.wk [(0, AV.lst false false (List.map (AV.int .i64) v0))] [] 0 (by simp) (by simp) (by simp) ?_
  refine AW.seqR mixed [] [none, none] (by kernel_rfl) fun G78 R78 hG78 hR78 => ?_
  try simp
  repeat' apply And.intro
  any_goals (first | exact hG78 _ (by kernel_rfl) | refine hR78 _ _ _ ?_ | omega | (unfold maxLen; omega) | (simp; done) | (simp; omega))
  refine AW.wk [(0, AV.lst false false (List.map (AV.int .i64) v0))] [] 0 (by simp) (by simp) (by simp) ?_
  refine AW.midF (α := Unit) (fun _ => ref24_Decode.J1 k v0 = some (v1, v2)) (fun _ => [(0, AV.lst false false (List.map (AV.int .i64) v0))]) (fun _ => []) 0 (fun K147 hK147 => ?_) ?_
  · refine AW.seqR mixed [] [none, none, none, none, some (9, false), some (9, false), some (9, false), some (9, false), none, none, some (15, false), some (15, false), some (15, false), some (15, false), none, none, some (21, false), some (21, false), some (21, false), some (21, false), none, none, some (27, false), some (27, false), some (27, false), some (27, false), none, none, some (33, false), some (33, false), some (33, false), some (33, false), some (33, false), some (38, true), some (38, true), some (38, true), some (38, true), some (33, false), none] (by kernel_rfl) fun G148 R148 hG148 hR148 => ?_
    by_cases h8 : (v0.length : Int) ≠ 2
    · replace hF := ite_t h8 hF
      have h8_ := eqb_f h8
      have h8__ := neb_t h8
      try simp [h8, h8_, h8__]
      repeat' apply And.intro
      any_goals (first | exact hG148 _ (by kernel_rfl) | refine hR148 _ _ _ ?_ | omega | (unfold maxLen; omega) | (simp [h8, h8_, h8__]; done) | (simp [h8, h8_, h8__]; omega))
      refine AW.wk [(0, AV.lst false false (List.map (AV.int .i64) v0)), (44, AV.bool true)] [] 0 (by simp [h8, h8_, h8__]) (by simp [h8, h8_, h8__]) (by simp) ?_
      refine AW.condT (by decide) (by simp [h8, h8_, h8__]) ?_
      refine AW.seqR mixed [] [none, none] (by kernel_rfl) fun G149 R149 hG149 hR149 => ?_
      try simp [h8, h8_, h8__]
      repeat' apply And.intro
      any_goals (first | exact hG149 _ (by kernel_rfl) | refine hR149 _ _ _ ?_ | omega | (unfold maxLen; omega) | (simp [h8, h8_, h8__]; done) | (simp [h8, h8_, h8__]; omega))
      refine AW.wk [(2, AV.lst true true (List.map (AV.int .i64) ([] : List Int))), (3, AV.int .i64 43)] [] 0 (by simp [h8, h8_, h8__]) (by simp [h8, h8_, h8__]) (by simp) ?_
      refine AW.own' 2 1 true (by simp [h8, h8_, h8__]) (by decide) ?_
      simp only [Option.some.injEq, Prod.mk.injEq] at hF
      obtain ⟨e0, e1⟩ := hF
      subst e0 e1
      refine AW.ret (hQ _ _ _ ?_ (matchO_0 ?_)).1
      · simp [Try.f69, h8, h8_, h8__]
      · simp [h8, h8_, h8__]
    · replace hF := ite_f h8 hF
      have h8q : (v0.length : Int) = 2 := Classical.not_not.1 h8
      have h8_ := eqb_t h8q
      have h8__ := neb_f h8q
      obtain ⟨v7, h9, h10, h11, hF⟩ := idx_elim hF
      have h11_ := get_of h11
      try simp at h11_
      have h10_ := h10
      try simp at h10_
      by_cases h12 : v7 < 0
      · replace hF := ite_t h12 hF
        have h12_ := h12
        try simp at h12_
        try simp [h8_, h8__, h8q, h9, h10, h11, h11_, h10_, h12, h12_]
        repeat' apply And.intro
        any_goals (first | exact hG148 _ (by kernel_rfl) | refine hR148 _ _ _ ?_ | omega | (unfold maxLen; omega) | (simp [h8_, h8__, h8q, h9, h10, h11, h11_, h10_, h12, h12_]; done) | (simp [h8_, h8__, h8q, h9, h10, h11, h11_, h10_, h12, h12_]; omega))
        refine AW.wk [(0, AV.lst false false (List.map (AV.int .i64) v0)), (44, AV.bool true)] [] 0 (by simp [h8_, h8__, h8q, h9, h10, h11, h11_, h10_, h12, h12_]) (by simp [h8_, h8__, h8q, h9, h10, h11, h11_, h10_, h12, h12_]) (by simp) ?_
        refine AW.condT (by decide) (by simp [h8_, h8__, h8q, h9, h10, h11, h11_, h10_, h12, h12_]) ?_
        refine AW.seqR mixed [] [none, none] (by kernel_rfl) fun G150 R150 hG150 hR150 => ?_
        try simp [h8_, h8__, h8q, h9, h10, h11, h11_, h10_, h12, h12_]
        repeat' apply And.intro
        any_goals (first | exact hG150 _ (by kernel_rfl) | refine hR150 _ _ _ ?_ | omega | (unfold maxLen; omega) | (simp [h8_, h8__, h8q, h9, h10, h11, h11_, h10_, h12, h12_]; done) | (simp [h8_, h8__, h8q, h9, h10, h11, h11_, h10_, h12, h12_]; omega))
        refine AW.wk [(2, AV.lst true true (List.map (AV.int .i64) ([] : List Int))), (3, AV.int .i64 43)] [] 0 (by simp [h8_, h8__, h8q, h9, h10, h11, h11_, h10_, h12, h12_]) (by simp [h8_, h8__, h8q, h9, h10, h11, h11_, h10_, h12, h12_]) (by simp) ?_
        refine AW.own' 2 1 true (by simp [h8_, h8__, h8q, h9, h10, h11, h11_, h10_, h12, h12_]) (by decide) ?_
        simp only [Option.some.injEq, Prod.mk.injEq] at hF
        obtain ⟨e0, e1⟩ := hF
        subst e0 e1
        refine AW.ret (hQ _ _ _ ?_ (matchO_0 ?_)).1
        · simp [Try.f69, h8_, h8__, h8q, h9, h10, h11, h11_, h10_, h12, h12_]
        · simp [h8_, h8__, h8q, h9, h10, h11, h11_, h10_, h12, h12_]
      · replace hF := ite_f h12 hF
        have h12_ := h12
        try simp at h12_
        by_cases h13 : 4294967296 ≤ v7
        · replace hF := ite_t h13 hF
          have h13_ := h13
          try simp at h13_
          try simp [h8_, h8__, h8q, h9, h10, h11, h11_, h10_, h12, h12_, h13, h13_]
          repeat' apply And.intro
          any_goals (first | exact hG148 _ (by kernel_rfl) | refine hR148 _ _ _ ?_ | omega | (unfold maxLen; omega) | (simp [h8_, h8__, h8q, h9, h10, h11, h11_, h10_, h12, h12_, h13, h13_]; done) | (simp [h8_, h8__, h8q, h9, h10, h11, h11_, h10_, h12, h12_, h13, h13_]; omega))
          refine AW.wk [(0, AV.lst false false (List.map (AV.int .i64) v0)), (44, AV.bool true)] [] 0 (by simp [h8_, h8__, h8q, h9, h10, h11, h11_, h10_, h12, h12_, h13, h13_]) (by simp [h8_, h8__, h8q, h9, h10, h11, h11_, h10_, h12, h12_, h13, h13_]) (by simp) ?_
          refine AW.condT (by decide) (by simp [h8_, h8__, h8q, h9, h10, h11, h11_, h10_, h12, h12_, h13, h13_]) ?_
          refine AW.seqR mixed [] [none, none] (by kernel_rfl) fun G151 R151 hG151 hR151 => ?_
          try simp [h8_, h8__, h8q, h9, h10, h11, h11_, h10_, h12, h12_, h13, h13_]
          repeat' apply And.intro
          any_goals (first | exact hG151 _ (by kernel_rfl) | refine hR151 _ _ _ ?_ | omega | (unfold maxLen; omega) | (simp [h8_, h8__, h8q, h9, h10, h11, h11_, h10_, h12, h12_, h13, h13_]; done) | (simp [h8_, h8__, h8q, h9, h10, h11, h11_, h10_, h12, h12_, h13, h13_]; omega))
          refine AW.wk [(2, AV.lst true true (List.map (AV.int .i64) ([] : List Int))), (3, AV.int .i64 43)] [] 0 (by simp [h8_, h8__, h8q, h9, h10, h11, h11_, h10_, h12, h12_, h13, h13_]) (by simp [h8_, h8__, h8q, h9, h10, h11, h11_, h10_, h12, h12_, h13, h13_]) (by simp) ?_
          refine AW.own' 2 1 true (by simp [h8_, h8__, h8q, h9, h10, h11, h11_, h10_, h12, h12_, h13, h13_]) (by decide) ?_
          simp only [Option.some.injEq, Prod.mk.injEq] at hF
          obtain ⟨e0, e1⟩ := hF
          subst e0 e1
          refine AW.ret (hQ _ _ _ ?_ (matchO_0 ?_)).1
          · simp [Try.f69, h8_, h8__, h8q, h9, h10, h11, h11_, h10_, h12, h12_, h13, h13_]
          · simp [h8_, h8__, h8q, h9, h10, h11, h11_, h10_, h12, h12_, h13, h13_]
        · replace hF := ite_f h13 hF
          have h13_ := h13
          try simp at h13_
          obtain ⟨v8, h14, h15, h16, hF⟩ := idx_elim hF
          have h16_ := get_of h16
          try simp at h16_
          have h15_ := h15
          try simp at h15_
          by_cases h17 : v8 < 0
          · replace hF := ite_t h17 hF
            have h17_ := h17
            try simp at h17_
            try simp [h8_, h8__, h8q, h9, h10, h11, h11_, h10_, h12, h12_, h13, h13_, h14, h15, h16, h16_, h15_, h17, h17_]
            repeat' apply And.intro
            any_goals (first | exact hG148 _ (by kernel_rfl) | refine hR148 _ _ _ ?_ | omega | (unfold maxLen; omega) | (simp [h8_, h8__, h8q, h9, h10, h11, h11_, h10_, h12, h12_, h13, h13_, h14, h15, h16, h16_, h15_, h17, h17_]; done) | (simp [h8_, h8__, h8q, h9, h10, h11, h11_, h10_, h12, h12_, h13, h13_, h14, h15, h16, h16_, h15_, h17, h17_]; omega))
            refine AW.wk [(0, AV.lst false false (List.map (AV.int .i64) v0)), (44, AV.bool true)] [] 0 (by simp [h8_, h8__, h8q, h9, h10, h11, h11_, h10_, h12, h12_, h13, h13_, h14, h15, h16, h16_, h15_, h17, h17_]) (by simp [h8_, h8__, h8q, h9, h10, h11, h11_, h10_, h12, h12_, h13, h13_, h14, h15, h16, h16_, h15_, h17, h17_]) (by simp) ?_
            refine AW.condT (by decide) (by simp [h8_, h8__, h8q, h9, h10, h11, h11_, h10_, h12, h12_, h13, h13_, h14, h15, h16, h16_, h15_, h17, h17_]) ?_
            refine AW.seqR mixed [] [none, none] (by kernel_rfl) fun G152 R152 hG152 hR152 => ?_
            try simp [h8_, h8__, h8q, h9, h10, h11, h11_, h10_, h12, h12_, h13, h13_, h14, h15, h16, h16_, h15_, h17, h17_]
            repeat' apply And.intro
            any_goals (first | exact hG152 _ (by kernel_rfl) | refine hR152 _ _ _ ?_ | omega | (unfold maxLen; omega) | (simp [h8_, h8__, h8q, h9, h10, h11, h11_, h10_, h12, h12_, h13, h13_, h14, h15, h16, h16_, h15_, h17, h17_]; done) | (simp [h8_, h8__, h8q, h9, h10, h11, h11_, h10_, h12, h12_, h13, h13_, h14, h15, h16, h16_, h15_, h17, h17_]; omega))
            refine AW.wk [(2, AV.lst true true (List.map (AV.int .i64) ([] : List Int))), (3, AV.int .i64 43)] [] 0 (by simp [h8_, h8__, h8q, h9, h10, h11, h11_, h10_, h12, h12_, h13, h13_, h14, h15, h16, h16_, h15_, h17, h17_]) (by simp [h8_, h8__, h8q, h9, h10, h11, h11_, h10_, h12, h12_, h13, h13_, h14, h15, h16, h16_, h15_, h17, h17_]) (by simp) ?_
            refine AW.own' 2 1 true (by simp [h8_, h8__, h8q, h9, h10, h11, h11_, h10_, h12, h12_, h13, h13_, h14, h15, h16, h16_, h15_, h17, h17_]) (by decide) ?_
            simp only [Option.some.injEq, Prod.mk.injEq] at hF
            obtain ⟨e0, e1⟩ := hF
            subst e0 e1
            refine AW.ret (hQ _ _ _ ?_ (matchO_0 ?_)).1
            · simp [Try.f69, h8_, h8__, h8q, h9, h10, h11, h11_, h10_, h12, h12_, h13, h13_, h14, h15, h16, h16_, h15_, h17, h17_]
            · simp [h8_, h8__, h8q, h9, h10, h11, h11_, h10_, h12, h12_, h13, h13_, h14, h15, h16, h16_, h15_, h17, h17_]
          · replace hF := ite_f h17 hF
            have h17_ := h17
            try simp at h17_
            by_cases h18 : 4294967296 ≤ v8
            · replace hF := ite_t h18 hF
              have h18_ := h18
              try simp at h18_
              try simp [h8_, h8__, h8q, h9, h10, h11, h11_, h10_, h12, h12_, h13, h13_, h14, h15, h16, h16_, h15_, h17, h17_, h18, h18_]
              repeat' apply And.intro
              any_goals (first | exact hG148 _ (by kernel_rfl) | refine hR148 _ _ _ ?_ | omega | (unfold maxLen; omega) | (simp [h8_, h8__, h8q, h9, h10, h11, h11_, h10_, h12, h12_, h13, h13_, h14, h15, h16, h16_, h15_, h17, h17_, h18, h18_]; done) | (simp [h8_, h8__, h8q, h9, h10, h11, h11_, h10_, h12, h12_, h13, h13_, h14, h15, h16, h16_, h15_, h17, h17_, h18, h18_]; omega))
              refine AW.wk [(0, AV.lst false false (List.map (AV.int .i64) v0)), (44, AV.bool true)] [] 0 (by simp [h8_, h8__, h8q, h9, h10, h11, h11_, h10_, h12, h12_, h13, h13_, h14, h15, h16, h16_, h15_, h17, h17_, h18, h18_]) (by simp [h8_, h8__, h8q, h9, h10, h11, h11_, h10_, h12, h12_, h13, h13_, h14, h15, h16, h16_, h15_, h17, h17_, h18, h18_]) (by simp) ?_
              refine AW.condT (by decide) (by simp [h8_, h8__, h8q, h9, h10, h11, h11_, h10_, h12, h12_, h13, h13_, h14, h15, h16, h16_, h15_, h17, h17_, h18, h18_]) ?_
              refine AW.seqR mixed [] [none, none] (by kernel_rfl) fun G153 R153 hG153 hR153 => ?_
              try simp [h8_, h8__, h8q, h9, h10, h11, h11_, h10_, h12, h12_, h13, h13_, h14, h15, h16, h16_, h15_, h17, h17_, h18, h18_]
              repeat' apply And.intro
              any_goals (first | exact hG153 _ (by kernel_rfl) | refine hR153 _ _ _ ?_ | omega | (unfold maxLen; omega) | (simp [h8_, h8__, h8q, h9, h10, h11, h11_, h10_, h12, h12_, h13, h13_, h14, h15, h16, h16_, h15_, h17, h17_, h18, h18_]; done) | (simp [h8_, h8__, h8q, h9, h10, h11, h11_, h10_, h12, h12_, h13, h13_, h14, h15, h16, h16_, h15_, h17, h17_, h18, h18_]; omega))
              refine AW.wk [(2, AV.lst true true (List.map (AV.int .i64) ([] : List Int))), (3, AV.int .i64 43)] [] 0 (by simp [h8_, h8__, h8q, h9, h10, h11, h11_, h10_, h12, h12_, h13, h13_, h14, h15, h16, h16_, h15_, h17, h17_, h18, h18_]) (by simp [h8_, h8__, h8q, h9, h10, h11, h11_, h10_, h12, h12_, h13, h13_, h14, h15, h16, h16_, h15_, h17, h17_, h18, h18_]) (by simp) ?_
              refine AW.own' 2 1 true (by simp [h8_, h8__, h8q, h9, h10, h11, h11_, h10_, h12, h12_, h13, h13_, h14, h15, h16, h16_, h15_, h17, h17_, h18, h18_]) (by decide) ?_
              simp only [Option.some.injEq, Prod.mk.injEq] at hF
              obtain ⟨e0, e1⟩ := hF
              subst e0 e1
              refine AW.ret (hQ _ _ _ ?_ (matchO_0 ?_)).1
              · simp [Try.f69, h8_, h8__, h8q, h9, h10, h11, h11_, h10_, h12, h12_, h13, h13_, h14, h15, h16, h16_, h15_, h17, h17_, h18, h18_]
              · simp [h8_, h8__, h8q, h9, h10, h11, h11_, h10_, h12, h12_, h13, h13_, h14, h15, h16, h16_, h15_, h17, h17_, h18, h18_]
            · replace hF := ite_f h18 hF
              have h18_ := h18
              try simp at h18_
              by_cases h19 : v7 = 0
              · replace hF := ite_t h19 hF
                have h19q : v7 = 0 := h19
                have h19_ := eqb_t h19q
                have h19__ := neb_f h19q
                try simp [h8_, h8__, h8q, h9, h10, h11, h11_, h10_, h12, h12_, h13, h13_, h14, h15, h16, h16_, h15_, h17, h17_, h18, h18_, h19_, h19__, h19q]
                repeat' apply And.intro
                any_goals (first | exact hG148 _ (by kernel_rfl) | refine hR148 _ _ _ ?_ | omega | (unfold maxLen; omega) | (simp [h8_, h8__, h8q, h9, h10, h11, h11_, h10_, h12, h12_, h13, h13_, h14, h15, h16, h16_, h15_, h17, h17_, h18, h18_, h19_, h19__, h19q]; done) | (simp [h8_, h8__, h8q, h9, h10, h11, h11_, h10_, h12, h12_, h13, h13_, h14, h15, h16, h16_, h15_, h17, h17_, h18, h18_, h19_, h19__, h19q]; omega))
                refine AW.wk [(0, AV.lst false false (List.map (AV.int .i64) v0)), (44, AV.bool (v8 == 0))] [] 0 (by simp [h8_, h8__, h8q, h9, h10, h11, h11_, h10_, h12, h12_, h13, h13_, h14, h15, h16, h16_, h15_, h17, h17_, h18, h18_, h19_, h19__, h19q]) (by simp [h8_, h8__, h8q, h9, h10, h11, h11_, h10_, h12, h12_, h13, h13_, h14, h15, h16, h16_, h15_, h17, h17_, h18, h18_, h19_, h19__, h19q]) (by simp) ?_
                by_cases h20 : v8 = 0
                · replace hF := ite_t h20 hF
                  have h20q : v8 = 0 := h20
                  have h20_ := eqb_t h20q
                  have h20__ := neb_f h20q
                  refine AW.condT (by decide) (by first | (simp [h8_, h8__, h8q, h9, h10, h11, h11_, h10_, h12, h12_, h13, h13_, h14, h15, h16, h16_, h15_, h17, h17_, h18, h18_, h19_, h19__, h19q, h20_, h20__, h20q]; done) | (simp [h8_, h8__, h8q, h9, h10, h11, h11_, h10_, h12, h12_, h13, h13_, h14, h15, h16, h16_, h15_, h17, h17_, h18, h18_, h19_, h19__, h19q, h20_, h20__, h20q]; omega)) ?_
                  refine AW.seqR mixed [] [none, none] (by kernel_rfl) fun G154 R154 hG154 hR154 => ?_
                  try simp [h8_, h8__, h8q, h9, h10, h11, h11_, h10_, h12, h12_, h13, h13_, h14, h15, h16, h16_, h15_, h17, h17_, h18, h18_, h19_, h19__, h19q, h20_, h20__, h20q]
                  repeat' apply And.intro
                  any_goals (first | exact hG154 _ (by kernel_rfl) | refine hR154 _ _ _ ?_ | omega | (unfold maxLen; omega) | (simp [h8_, h8__, h8q, h9, h10, h11, h11_, h10_, h12, h12_, h13, h13_, h14, h15, h16, h16_, h15_, h17, h17_, h18, h18_, h19_, h19__, h19q, h20_, h20__, h20q]; done) | (simp [h8_, h8__, h8q, h9, h10, h11, h11_, h10_, h12, h12_, h13, h13_, h14, h15, h16, h16_, h15_, h17, h17_, h18, h18_, h19_, h19__, h19q, h20_, h20__, h20q]; omega))
                  refine AW.wk [(2, AV.lst true true (List.map (AV.int .i64) ([] : List Int))), (3, AV.int .i64 43)] [] 0 (by simp [h8_, h8__, h8q, h9, h10, h11, h11_, h10_, h12, h12_, h13, h13_, h14, h15, h16, h16_, h15_, h17, h17_, h18, h18_, h19_, h19__, h19q, h20_, h20__, h20q]) (by simp [h8_, h8__, h8q, h9, h10, h11, h11_, h10_, h12, h12_, h13, h13_, h14, h15, h16, h16_, h15_, h17, h17_, h18, h18_, h19_, h19__, h19q, h20_, h20__, h20q]) (by simp) ?_
                  refine AW.own' 2 1 true (by simp [h8_, h8__, h8q, h9, h10, h11, h11_, h10_, h12, h12_, h13, h13_, h14, h15, h16, h16_, h15_, h17, h17_, h18, h18_, h19_, h19__, h19q, h20_, h20__, h20q]) (by decide) ?_
                  simp only [Option.some.injEq, Prod.mk.injEq] at hF
                  obtain ⟨e0, e1⟩ := hF
                  subst e0 e1
                  refine AW.ret (hQ _ _ _ ?_ (matchO_0 ?_)).1
                  · simp [Try.f69, h8_, h8__, h8q, h9, h10, h11, h11_, h10_, h12, h12_, h13, h13_, h14, h15, h16, h16_, h15_, h17, h17_, h18, h18_, h19_, h19__, h19q, h20_, h20__, h20q]
                  · simp [h8_, h8__, h8q, h9, h10, h11, h11_, h10_, h12, h12_, h13, h13_, h14, h15, h16, h16_, h15_, h17, h17_, h18, h18_, h19_, h19__, h19q, h20_, h20__, h20q]
                · replace hF := ite_f h20 hF
                  have h20_ := eqb_f h20
                  have h20__ := neb_t h20
                  refine AW.condF (by decide) (by first | (simp [h8_, h8__, h8q, h9, h10, h11, h11_, h10_, h12, h12_, h13, h13_, h14, h15, h16, h16_, h15_, h17, h17_, h18, h18_, h19_, h19__, h19q, h20, h20_, h20__]; done) | (simp [h8_, h8__, h8q, h9, h10, h11, h11_, h10_, h12, h12_, h13, h13_, h14, h15, h16, h16_, h15_, h17, h17_, h18, h18_, h19_, h19__, h19q, h20, h20_, h20__]; omega)) ?_
                  refine AW.skip ?_
                  refine hK147 _ _ _ ?_
                  exact Can.join (()) hF (by simp [h8_, h8__, h8q, h9, h10, h11, h11_, h10_, h12, h12_, h13, h13_, h14, h15, h16, h16_, h15_, h17, h17_, h18, h18_, h19_, h19__, h19q, h20, h20_, h20__]) (by simp [h8_, h8__, h8q, h9, h10, h11, h11_, h10_, h12, h12_, h13, h13_, h14, h15, h16, h16_, h15_, h17, h17_, h18, h18_, h19_, h19__, h19q, h20, h20_, h20__]) (by simp)
              · replace hF := ite_f h19 hF
                have h19_ := eqb_f h19
                have h19__ := neb_t h19
                try simp [h8_, h8__, h8q, h9, h10, h11, h11_, h10_, h12, h12_, h13, h13_, h14, h15, h16, h16_, h15_, h17, h17_, h18, h18_, h19, h19_, h19__]
                repeat' apply And.intro
                any_goals (first | exact hG148 _ (by kernel_rfl) | refine hR148 _ _ _ ?_ | omega | (unfold maxLen; omega) | (simp [h8_, h8__, h8q, h9, h10, h11, h11_, h10_, h12, h12_, h13, h13_, h14, h15, h16, h16_, h15_, h17, h17_, h18, h18_, h19, h19_, h19__]; done) | (simp [h8_, h8__, h8q, h9, h10, h11, h11_, h10_, h12, h12_, h13, h13_, h14, h15, h16, h16_, h15_, h17, h17_, h18, h18_, h19, h19_, h19__]; omega))
                refine AW.wk [(0, AV.lst false false (List.map (AV.int .i64) v0)), (44, AV.bool false)] [] 0 (by simp [h8_, h8__, h8q, h9, h10, h11, h11_, h10_, h12, h12_, h13, h13_, h14, h15, h16, h16_, h15_, h17, h17_, h18, h18_, h19, h19_, h19__]) (by simp [h8_, h8__, h8q, h9, h10, h11, h11_, h10_, h12, h12_, h13, h13_, h14, h15, h16, h16_, h15_, h17, h17_, h18, h18_, h19, h19_, h19__]) (by simp) ?_
                refine AW.condF (by decide) (by simp [h8_, h8__, h8q, h9, h10, h11, h11_, h10_, h12, h12_, h13, h13_, h14, h15, h16, h16_, h15_, h17, h17_, h18, h18_, h19, h19_, h19__]) ?_
                refine AW.skip ?_
                refine hK147 _ _ _ ?_
                exact Can.join (()) hF (by simp [h8_, h8__, h8q, h9, h10, h11, h11_, h10_, h12, h12_, h13, h13_, h14, h15, h16, h16_, h15_, h17, h17_, h18, h18_, h19, h19_, h19__]) (by simp [h8_, h8__, h8q, h9, h10, h11, h11_, h10_, h12, h12_, h13, h13_, h14, h15, h16, h16_, h15_, h17, h17_, h18, h18_, h19, h19_, h19__]) (by simp)
  · rintro ⟨⟩ hF
    try dsimp only at hF
    unfold ref24_Decode.J1 at hF
    refine AW.seqR mixed [] [none] (by kernel_rfl) fun G86 R86 hG86 hR86 => ?_
    try simp
    repeat' apply And.intro
    any_goals (first | exact hG86 _ (by kernel_rfl) | refine hR86 _ _ _ ?_ | omega | (unfold maxLen; omega) | (simp; done) | (simp; omega))
    refine AW.wk [(0, AV.lst false false (List.map (AV.int .i64) v0)), (4, AV.lst true true (List.map (AV.int .i64) ([] : List Int)))] [] 0 (by simp) (by simp) (by simp) ?_
    refine AW.seq fun K116 hK116 => ?_
    refine AW.seqR mixed [] [none] (by kernel_rfl) fun G117 R117 hG117 hR117 => ?_
    try simp
    repeat' apply And.intro
    any_goals (first | exact hG117 _ (by kernel_rfl) | refine hR117 _ _ _ ?_ | omega | (unfold maxLen; omega) | (simp; done) | (simp; omega))
    refine AW.wk [(0, AV.lst false false (List.map (AV.int .i64) v0)), (4, AV.lst true true (List.map (AV.int .i64) ([] : List Int))), (5, AV.int .i64 0)] [] 0 (by simp) (by simp) (by simp) ?_
    refine AW.block ?_
    refine AW.own' 4 1 true (by simp) (by decide) ?_
    refine AW.loopF (α := (Int × (List Int))) (fun n (v3, v4) => ref24_Decode.L2 k v0 n v3 v4 = some (v1, v2)) (fun (v3, v4) => [(0, AV.lst false false (List.map (AV.int .i64) v0)), (4, AV.slc 0 0 1 v4.length false), (5, AV.int .i64 v3)]) (fun (v3, v4) => [(0, .grow (List.map (AV.int .i64) v4))]) 1 k ((0, ([] : List Int))) hF (by simp) (by simp) (by simp) ?_
    rintro (_|n2) ⟨v3, v4⟩ hF K136 hK136
    · try dsimp only at hF
      rw [ref24_Decode.L2] at hF; cases hF
    try dsimp only at hF
    rw [ref24_Decode.L2] at hF
    refine AW.seq fun K138 hK138 => ?_
    refine AW.seqR mixed [] [none, none] (by kernel_rfl) fun G139 R139 hG139 hR139 => ?_
    try simp
    repeat' apply And.intro
    any_goals (first | exact hG139 _ (by kernel_rfl) | refine hR139 _ _ _ ?_ | omega | (unfold maxLen; omega) | (simp; done) | (simp; omega))
    refine AW.wk [(0, AV.lst false false (List.map (AV.int .i64) v0)), (4, AV.slc 0 0 1 v4.length false), (5, AV.int .i64 v3), (46, AV.bool (decide (v3 < 64)))] [(0, .grow (List.map (AV.int .i64) v4))] 1 (by simp) (by simp) (by simp) ?_
    by_cases h1 : v3 < 64
    · replace hF := ite_t h1 hF
      have h1_ := h1
      try simp at h1_
      refine AW.condT (by decide) (by first | (simp [h1, h1_]; done) | (simp [h1, h1_]; omega)) ?_
      refine AW.skip ?_
      refine hK138 _ _ _ ?_
      refine AW.midF (α := (List Int)) (fun v5 => ref24_Decode.J3 k v3 (fun v3_ v4_ => ref24_Decode.L2 k v0 n2 v3_ v4_) v5 = some (v1, v2)) (fun v5 => [(0, AV.lst false false (List.map (AV.int .i64) v0)), (4, AV.slc 0 0 1 v5.length false), (5, AV.int .i64 v3)]) (fun v5 => [(0, .grow (List.map (AV.int .i64) v5))]) 1 (fun K143 hK143 => ?_) ?_
      · refine AW.block ?_
        refine AW.seqR mixed [] [none, none, none, none, none, none, none, none, none, none, none] (by kernel_rfl) fun G144 R144 hG144 hR144 => ?_
        obtain ⟨v6, h2, h3, h4, hF⟩ := idx_elim hF
        have h4_ := get_of h4
        try simp at h4_
        have h3_ := h3
        try simp at h3_
        obtain ⟨h5, hF⟩ := chk_elim hF
        try simp [h1, h1_, h2, h3, h4, h4_, h3_, h5]
        repeat' apply And.intro
        any_goals (first | exact hG144 _ (by kernel_rfl) | refine hR144 _ _ _ ?_ | omega | (unfold maxLen; omega) | (simp [h1, h1_, h2, h3, h4, h4_, h3_, h5]; done) | (simp [h1, h1_, h2, h3, h4, h4_, h3_, h5]; omega))
        refine AW.wk [(0, AV.lst false false (List.map (AV.int .i64) v0)), (4, AV.slc 0 0 1 v4.length false), (5, AV.int .i64 v3), (59, AV.bool ((bitsV .and .i64 (Int.fdiv v6 (2 ^ (min ((IntKind.wrap .u64 (Int.tmod v3 32)).toNat) 64))) 1) == 1))] [(0, .grow (List.map (AV.int .i64) v4))] 1 (by simp [h1, h1_, h2, h3, h4, h4_, h3_, h5]) (by simp [h1, h1_, h2, h3, h4, h4_, h3_, h5]) (by simp) ?_
        by_cases h6 : (bitsV .and .i64 (Int.fdiv v6 (2 ^ (min ((IntKind.wrap .u64 (Int.tmod v3 32)).toNat) 64))) 1) = 1
        · replace hF := ite_t h6 hF
          have h6q : (bitsV .and .i64 (Int.fdiv v6 (2 ^ (min ((IntKind.wrap .u64 (Int.tmod v3 32)).toNat) 64))) 1) = 1 := h6
          have h6_ := eqb_t h6q
          have h6__ := neb_f h6q
          refine AW.condT (by decide) (by first | (simp [h1, h1_, h2, h3, h4, h4_, h3_, h5, h6_, h6__, h6q]; done) | (simp [h1, h1_, h2, h3, h4, h4_, h3_, h5, h6_, h6__, h6q]; omega)) ?_
          refine AW.region mixed [] [none, none, none, none, none] (by kernel_rfl) fun G145 R145 hG145 hR145 => ?_
          obtain ⟨h7, hF⟩ := chk_elim hF
          have h7_ := h7
          try simp at h7_
          try simp [h1, h1_, h2, h3, h4, h4_, h3_, h5, h6_, h6__, h6q, h7]
          repeat' apply And.intro
          any_goals (first | exact hG145 _ (by kernel_rfl) | refine hR145 _ _ _ ?_ | omega | (unfold maxLen; omega) | (simp [h1, h1_, h2, h3, h4, h4_, h3_, h5, h6_, h6__, h6q, h7]; done) | (simp [h1, h1_, h2, h3, h4, h4_, h3_, h5, h6_, h6__, h6q, h7]; omega))
          refine hK143 _ _ _ ?_
          refine Can.weak [(0, AV.lst false false (List.map (AV.int .i64) v0)), (4, AV.slc 1 0 1 ((v4 ++ ([v3] : List Int)).length) false), (5, AV.int .i64 v3)] [(1, .grow (List.map (AV.int .i64) (v4 ++ ([v3] : List Int))))] 2 (by simp [h1, h1_, h2, h3, h4, h4_, h3_, h5, h6_, h6__, h6q, h7]) (by simp [h1, h1_, h2, h3, h4, h4_, h3_, h5, h6_, h6__, h6q, h7]) (by simp) ?_
          refine Can.ren (m := 0) h0 [(0, 1)] [(0, AV.lst false false (List.map (AV.int .i64) v0)), (4, AV.slc 0 0 1 ((v4 ++ ([v3] : List Int)).length) false), (5, AV.int .i64 v3)] [(0, .grow (List.map (AV.int .i64) (v4 ++ ([v3] : List Int))))] 1 (by decide) (by decide) (by decide) rfl (by simp [h1, h1_, h2, h3, h4, h4_, h3_, h5, h6_, h6__, h6q, h7]) (by simp [h1, h1_, h2, h3, h4, h4_, h3_, h5, h6_, h6__, h6q, h7]) ?_
          exact Can.join (v4 ++ ([v3] : List Int)) hF (by simp [h1, h1_, h2, h3, h4, h4_, h3_, h5, h6_, h6__, h6q, h7]) (by simp [h1, h1_, h2, h3, h4, h4_, h3_, h5, h6_, h6__, h6q, h7]) (by simp)
        · replace hF := ite_f h6 hF
          have h6_ := eqb_f h6
          have h6__ := neb_t h6
          refine AW.condF (by decide) (by first | (simp [h1, h1_, h2, h3, h4, h4_, h3_, h5, h6, h6_, h6__]; done) | (simp [h1, h1_, h2, h3, h4, h4_, h3_, h5, h6, h6_, h6__]; omega)) ?_
          refine AW.skip ?_
          refine hK143 _ _ _ ?_
          exact Can.join (v4) hF (by simp [h1, h1_, h2, h3, h4, h4_, h3_, h5, h6, h6_, h6__]) (by simp [h1, h1_, h2, h3, h4, h4_, h3_, h5, h6, h6_, h6__]) (by simp)
      · rintro v5 hF
        try dsimp only at hF
        unfold ref24_Decode.J3 at hF
        refine AW.region mixed [] [none, none, none] (by kernel_rfl) fun G142 R142 hG142 hR142 => ?_
        try simp [h1, h1_]
        repeat' apply And.intro
        any_goals (first | exact hG142 _ (by kernel_rfl) | refine hR142 _ _ _ ?_ | omega | (unfold maxLen; omega) | (simp [h1, h1_]; done) | (simp [h1, h1_]; omega))
        refine hK136 _ _ _ ?_
        refine Can.weak [(0, AV.lst false false (List.map (AV.int .i64) v0)), (4, AV.slc 0 0 1 v5.length false), (5, AV.int .i64 (IntKind.wrap .i64 (v3 + 1)))] [(0, .grow (List.map (AV.int .i64) v5))] 1 (by simp [h1, h1_]) (by simp [h1, h1_]) (by simp) ?_
        exact Can.next (k' := n2) ((IntKind.wrap .i64 (v3 + 1), v5)) (by omega) hF (by simp [h1, h1_]) (by simp [h1, h1_]) (by simp)
    · replace hF := ite_f h1 hF
      have h1_ := h1
      try simp at h1_
      refine AW.condF (by decide) (by first | (simp [h1, h1_]; done) | (simp [h1, h1_]; omega)) ?_
      refine AW.exit ?_
      try simp
      refine hK116 _ _ _ ?_
      refine AW.seqR mixed [] [none, none, none] (by kernel_rfl) fun G146 R146 hG146 hR146 => ?_
      try simp [h1, h1_]
      repeat' apply And.intro
      any_goals (first | exact hG146 _ (by kernel_rfl) | refine hR146 _ _ _ ?_ | omega | (unfold maxLen; omega) | (simp [h1, h1_]; done) | (simp [h1, h1_]; omega))
      refine AW.wk [(2, AV.slc 0 0 1 v4.length false), (3, AV.int .i64 0)] [(0, .grow (List.map (AV.int .i64) v4))] 1 (by simp [h1, h1_]) (by simp [h1, h1_]) (by simp) ?_
      simp only [Option.some.injEq, Prod.mk.injEq] at hF
      obtain ⟨e0, e1⟩ := hF
      subst e0 e1
      refine AW.ret (hQ _ _ _ ?_ (matchO_0 ?_)).1
      · simp [Try.f69, h1, h1_]
      · simp [h1, h1_]
end Go.TF
