/- Walks: the Go text computes the Lean functions (printed by a program of our own). -/
import Derived.Test.YtocmgnljgemjkaaPu
import Derived.Test.YtocmgnljgemjkaaAbsT
import Derived.Test.YtocmgnljgemjkaaWa0
import Derived.Test.YtocmgnljgemjkaaWa3
set_option linter.unusedVariables false
set_option linter.unusedSimpArgs false
set_option maxRecDepth 100000
namespace Go.TF
open Go Go.Abs Go.Proofs Go.Proofs.YtocmgnljgemjkaaT
set_option maxHeartbeats 4000000 in
theorem w_wire_Int (k : Nat) (v0 : (List Int)) (v1 : Int) (v2 : (List Int)) (hF : wire_Int k v0 v1 = some v2) :
    FCall Try.prog 27 [AV.lst false false (List.map (AV.int .u8) v0), AV.int .i64 v1] [] (AV.slc 0 0 1 v2.length false) [some (.grow (List.map (AV.int .u8) v2))] := by
  unfold wire_Int at hF
  refine FCall.enter Try.func27 rfl (by simp) (by decide) (by simp) (by simp) (by simp) (by simp) (by simp) ?_
  intro c0 w0 Q h0 hQ
  refine AW.wk [(0, AV.lst false false (List.map (AV.int .u8) v0)), (1, AV.int .i64 v1)] [] 0 (by simp) (by simp) (by simp) ?_
  refine AW.seqR mixed [] [none] (by kernel_rfl) fun G3 R3 hG3 hR3 => ?_
  try simp
  repeat' apply And.intro
  any_goals (first | exact hG3 _ (by kernel_rfl) | refine hR3 _ _ _ ?_ | omega | (unfold maxLen; omega) | (simp; done) | (simp; omega))
  refine AW.wk [(0, AV.lst false false (List.map (AV.int .u8) v0)), (1, AV.int .i64 v1)] [] 0 (by simp) (by simp) (by simp) ?_
  refine AW.seqR mixed [] [none, none, none, none, none] (by kernel_rfl) fun G4 R4 hG4 hR4 => ?_
  try simp
  repeat' apply And.intro
  try any_goals (first | omega | (unfold maxLen; omega) | (simp; done))
  obtain ⟨v3, h1, hF⟩ := bnd1_elim hF
  refine aCall_l (w_slices_Clone_byte_byte k _ _ h1) (by simp) [] [] [] rfl (.cons (.same (by simp)) .nil) (by simp) (by decide) (by simp) (by simp) (.inl rfl) (by simp) (by simp) ?_
  try simp
  repeat' apply And.intro
  try any_goals (first | omega | (unfold maxLen; omega) | (simp; done))
  obtain ⟨v4, h2, hF⟩ := bnd1_elim hF
  refine aCall_l (w_wire_put k _ _ _ h2) (by simp) [0] [] [0] rfl (.cons (.same (by simp)) (.cons (.same (by simp)) .nil)) (by simp) (by decide) (by simp) (by simp) (.inl rfl) (by simp) (by simp) ?_
  try simp
  repeat' apply And.intro
  any_goals (first | exact hG4 _ (by kernel_rfl) | refine hR4 _ _ _ ?_ | omega | (unfold maxLen; omega) | (simp; done) | (simp; omega))
  refine AW.wk [(4, AV.slc 1 0 1 v4.length false)] [(1, .grow (List.map (AV.int .u8) v4))] 2 (by simp) (by simp) (by simp) ?_
  refine AW.rnm (m := 0) h0 [(0, 1)] [(4, AV.slc 0 0 1 v4.length false)] [(0, .grow (List.map (AV.int .u8) v4))] 1 (by decide) (by decide) (by decide) rfl (by simp) (by simp) ?_
  simp only [Option.some.injEq] at hF
  subst hF
  refine AW.ret (hQ _ _ _ ?_ (matchO_0 ?_)).1
  · simp [Try.f27]
  · simp
set_option maxHeartbeats 4000000 in
theorem w_wire_Text (k : Nat) (v0 : (List Int)) (v1 : ByteArray) (v2 : (List Int)) (hF : wire_Text k v0 v1 = some v2) :
    FCall Try.prog 29 [AV.lst false false (List.map (AV.int .u8) v0), AV.str v1] [] (AV.slc 0 0 1 v2.length false) [some (.grow (List.map (AV.int .u8) v2))] := by
  unfold wire_Text at hF
  refine FCall.enter Try.func29 rfl (by simp) (by decide) (by simp) (by simp) (by simp) (by simp) (by simp) ?_
  intro c0 w0 Q h0 hQ
  refine AW.wk [(0, AV.lst false false (List.map (AV.int .u8) v0)), (1, AV.str v1)] [] 0 (by simp) (by simp) (by simp) ?_
  refine AW.seqR mixed [] [none] (by kernel_rfl) fun G3 R3 hG3 hR3 => ?_
  try simp
  repeat' apply And.intro
  any_goals (first | exact hG3 _ (by kernel_rfl) | refine hR3 _ _ _ ?_ | omega | (unfold maxLen; omega) | (simp; done) | (simp; omega))
  refine AW.wk [(0, AV.lst false false (List.map (AV.int .u8) v0)), (1, AV.str v1)] [] 0 (by simp) (by simp) (by simp) ?_
  refine AW.seqR mixed [] [none, none, none, none, none, none, none] (by kernel_rfl) fun G4 R4 hG4 hR4 => ?_
  try simp
  repeat' apply And.intro
  try any_goals (first | omega | (unfold maxLen; omega) | (simp; done))
  obtain ⟨v3, h1, hF⟩ := bnd1_elim hF
  refine aCall_l (w_wire_Int k _ _ _ h1) (by simp) [] [] [] rfl (.cons (.same (by simp)) (.cons (.same (by simp)) .nil)) (by simp) (by decide) (by simp) (by simp) (.inl rfl) (by simp) (by simp) ?_
  obtain ⟨h2, hF⟩ := chk_elim hF
  have h2_ := h2
  try simp at h2_
  try simp [h2]
  repeat' apply And.intro
  any_goals (first | exact hG4 _ (by kernel_rfl) | refine hR4 _ _ _ ?_ | omega | (unfold maxLen; omega) | (simp [h2]; done) | (simp [h2]; omega))
  refine AW.wk [(4, AV.slc 1 0 1 ((v3 ++ (bI v1)).length) false)] [(1, .grow (List.map (AV.int .u8) (v3 ++ (bI v1))))] 2 (by simp [h2]) (by simp [h2]) (by simp) ?_
  refine AW.rnm (m := 0) h0 [(0, 1)] [(4, AV.slc 0 0 1 ((v3 ++ (bI v1)).length) false)] [(0, .grow (List.map (AV.int .u8) (v3 ++ (bI v1))))] 1 (by decide) (by decide) (by decide) rfl (by simp [h2]) (by simp [h2]) ?_
  simp only [Option.some.injEq] at hF
  subst hF
  refine AW.ret (hQ _ _ _ ?_ (matchO_0 ?_)).1
  · simp [Try.f29, h2]
  · simp [h2]
set_option maxHeartbeats 4000000 in
theorem w_wire_TakeInt (k : Nat) (v0 : (List Int)) (v1 : Int) (v2 : (List Int)) (v3 : Bool) (hF : wire_TakeInt k v0 = some (v1, v2, v3)) :
    FCall Try.prog 54 [AV.lst false false (List.map (AV.int .u8) v0)] [] (AV.tup [AV.int .i64 v1, AV.slc 0 0 1 v2.length false, AV.bool v3]) [some (.grow (List.map (AV.int .u8) v2))] := by
  unfold wire_TakeInt at hF
  refine FCall.enter Try.func54 rfl (by simp) (by decide) (by simp) (by simp) (by simp) (by simp) (by simp) ?_
  intro c0 w0 Q h0 hQ
  refine AW.wk [(0, AV.lst false false (List.map (AV.int .u8) v0))] [] 0 (by simp) (by simp) (by simp) ?_
  refine AW.seqR mixed [] [none, none, none] (by kernel_rfl) fun G62 R62 hG62 hR62 => ?_
  try simp
  repeat' apply And.intro
  any_goals (first | exact hG62 _ (by kernel_rfl) | refine hR62 _ _ _ ?_ | omega | (unfold maxLen; omega) | (simp; done) | (simp; omega))
  refine AW.wk [(0, AV.lst false false (List.map (AV.int .u8) v0))] [] 0 (by simp) (by simp) (by simp) ?_
  refine AW.seq fun K65 hK65 => ?_
  refine AW.seqR mixed [] [none, none, none] (by kernel_rfl) fun G66 R66 hG66 hR66 => ?_
  try simp
  repeat' apply And.intro
  any_goals (first | exact hG66 _ (by kernel_rfl) | refine hR66 _ _ _ ?_ | omega | (unfold maxLen; omega) | (simp; done) | (simp; omega))
  refine AW.wk [(0, AV.lst false false (List.map (AV.int .u8) v0)), (10, AV.bool (decide ((v0.length : Int) < 8)))] [] 0 (by simp) (by simp) (by simp) ?_
  by_cases h1 : (v0.length : Int) < 8
  · replace hF := ite_t h1 hF
    have h1_ := h1
    try simp at h1_
    refine AW.condT (by decide) (by first | (simp [h1, h1_]; done) | (simp [h1, h1_]; omega)) ?_
    refine AW.seqR mixed [] [none, none, none] (by kernel_rfl) fun G67 R67 hG67 hR67 => ?_
    try simp [h1, h1_]
    repeat' apply And.intro
    any_goals (first | exact hG67 _ (by kernel_rfl) | refine hR67 _ _ _ ?_ | omega | (unfold maxLen; omega) | (simp [h1, h1_]; done) | (simp [h1, h1_]; omega))
    refine AW.wk [(2, AV.int .i64 0), (3, AV.lst true true (List.map (AV.int .u8) ([] : List Int))), (4, AV.bool false)] [] 0 (by simp [h1, h1_]) (by simp [h1, h1_]) (by simp) ?_
    refine AW.own' 3 1 true (by simp [h1, h1_]) (by decide) ?_
    simp only [Option.some.injEq, Prod.mk.injEq] at hF
    obtain ⟨e0, e1, e2⟩ := hF
    subst e0 e1 e2
    refine AW.ret (hQ _ _ _ ?_ (matchO_0 ?_)).1
    · simp [Try.f54, h1, h1_]
    · simp [h1, h1_]
  · replace hF := ite_f h1 hF
    have h1_ := h1
    try simp at h1_
    refine AW.condF (by decide) (by first | (simp [h1, h1_]; done) | (simp [h1, h1_]; omega)) ?_
    refine AW.skip ?_
    refine hK65 _ _ _ ?_
    refine AW.seqR mixed [] [none] (by kernel_rfl) fun G68 R68 hG68 hR68 => ?_
    try simp [h1, h1_]
    repeat' apply And.intro
    any_goals (first | exact hG68 _ (by kernel_rfl) | refine hR68 _ _ _ ?_ | omega | (unfold maxLen; omega) | (simp [h1, h1_]; done) | (simp [h1, h1_]; omega))
    refine AW.wk [(0, AV.lst false false (List.map (AV.int .u8) v0)), (5, AV.int .u64 0)] [] 0 (by simp [h1, h1_]) (by simp [h1, h1_]) (by simp) ?_
    refine AW.seq fun K95 hK95 => ?_
    refine AW.seqR mixed [] [none, none, none, none] (by kernel_rfl) fun G96 R96 hG96 hR96 => ?_
    obtain ⟨h2, hF⟩ := chk_elim hF
    have h2_ := h2
    try simp at h2_
    try simp [h1, h1_, h2, h2_]
    repeat' apply And.intro
    any_goals (first | exact hG96 _ (by kernel_rfl) | refine hR96 _ _ _ ?_ | omega | (unfold maxLen; omega) | (simp [h1, h1_, h2, h2_]; done) | (simp [h1, h1_, h2, h2_]; omega))
    refine AW.wk [(0, AV.lst false false (List.map (AV.int .u8) v0)), (5, AV.int .u64 0), (12, AV.lst false false (List.map (AV.int .u8) (v0.take (8 : Int).toNat))), (13, AV.int .i64 ((v0.take (8 : Int).toNat).length : Int)), (14, AV.int .i64 0)] [] 0 (by simp [h1, h1_, h2, h2_]) (by simp [h1, h1_, h2, h2_]) (by simp) ?_
    refine AW.block ?_
    refine AW.loopF (α := (Int × Int)) (fun n (v4, v5) => wire_TakeInt.L1 k v0 n v4 v5 = some (v1, v2, v3)) (fun (v4, v5) => [(0, AV.lst false false (List.map (AV.int .u8) v0)), (5, AV.int .u64 v4), (12, AV.lst false false (List.map (AV.int .u8) (v0.take (8 : Int).toNat))), (13, AV.int .i64 ((v0.take (8 : Int).toNat).length : Int)), (14, AV.int .i64 v5)]) (fun (v4, v5) => []) 0 k ((0, 0)) hF (by simp [h1, h1_, h2, h2_]) (by simp [h1, h1_, h2, h2_]) (by simp) ?_
    rintro (_|n1) ⟨v4, v5⟩ hF K113 hK113
    · try dsimp only at hF
      rw [wire_TakeInt.L1] at hF; cases hF
    try dsimp only at hF
    rw [wire_TakeInt.L1] at hF
    refine AW.seqR mixed [] [none] (by kernel_rfl) fun G114 R114 hG114 hR114 => ?_
    try simp [h1, h1_, h2, h2_]
    repeat' apply And.intro
    any_goals (first | exact hG114 _ (by kernel_rfl) | refine hR114 _ _ _ ?_ | omega | (unfold maxLen; omega) | (simp [h1, h1_, h2, h2_]; done) | (simp [h1, h1_, h2, h2_]; omega))
    refine AW.wk [(0, AV.lst false false (List.map (AV.int .u8) v0)), (5, AV.int .u64 v4), (12, AV.lst false false (List.map (AV.int .u8) (v0.take (8 : Int).toNat))), (13, AV.int .i64 ((v0.take (8 : Int).toNat).length : Int)), (14, AV.int .i64 v5), (15, AV.bool (decide (v5 < ((v0.take (8 : Int).toNat).length : Int))))] [] 0 (by simp [h1, h1_, h2, h2_]) (by simp [h1, h1_, h2, h2_]) (by simp) ?_
    refine AW.seq fun K115 hK115 => ?_
    by_cases h3 : v5 < ((v0.take (8 : Int).toNat).length : Int)
    · replace hF := ite_t h3 hF
      have h3_ := h3
      try simp at h3_
      refine AW.condT (by decide) (by first | (simp [h1, h1_, h2, h2_, h3, h3_]; done) | (simp [h1, h1_, h2, h2_, h3, h3_]; omega)) ?_
      refine AW.skip ?_
      refine hK115 _ _ _ ?_
      refine AW.seq fun K118 hK118 => ?_
      refine AW.block ?_
      refine AW.seqR mixed [] [none, none, none] (by kernel_rfl) fun G119 R119 hG119 hR119 => ?_
      obtain ⟨v6, h4, h5, h6, hF⟩ := idx_elim hF
      have h6_ := get_of h6
      try simp at h6_
      have h5_ := h5
      try simp at h5_
      have h5t := h5
      rw [List.length_take] at h5t
      have h5u := (Nat.lt_min.1 h5t).1
      have h5v := (Nat.lt_min.1 h5t).2
      try simp [h1, h1_, h2, h2_, h3, h3_, h4, h5, h6, h6_, h5_, h5u, h5v]
      repeat' apply And.intro
      any_goals (first | exact hG119 _ (by kernel_rfl) | refine hR119 _ _ _ ?_ | omega | (unfold maxLen; omega) | (simp [h1, h1_, h2, h2_, h3, h3_, h4, h5, h6, h6_, h5_, h5u, h5v]; done) | (simp [h1, h1_, h2, h2_, h3, h3_, h4, h5, h6, h6_, h5_, h5u, h5v]; omega))
      refine AW.wk [(0, AV.lst false false (List.map (AV.int .u8) v0)), (5, AV.int .u64 v4), (7, AV.int .u8 v6), (12, AV.lst false false (List.map (AV.int .u8) (v0.take (8 : Int).toNat))), (13, AV.int .i64 ((v0.take (8 : Int).toNat).length : Int)), (14, AV.int .i64 v5)] [] 0 (by simp [h1, h1_, h2, h2_, h3, h3_, h4, h5, h6, h6_, h5_, h5u, h5v]) (by simp [h1, h1_, h2, h2_, h3, h3_, h4, h5, h6, h6_, h5_, h5u, h5v]) (by simp) ?_
      refine AW.region mixed [] [none, none, none, none, none, none] (by kernel_rfl) fun G120 R120 hG120 hR120 => ?_
      try simp [h1, h1_, h2, h2_, h3, h3_, h4, h5, h6, h6_, h5_, h5u, h5v]
      repeat' apply And.intro
      any_goals (first | exact hG120 _ (by kernel_rfl) | refine hR120 _ _ _ ?_ | omega | (unfold maxLen; omega) | (simp [h1, h1_, h2, h2_, h3, h3_, h4, h5, h6, h6_, h5_, h5u, h5v]; done) | (simp [h1, h1_, h2, h2_, h3, h3_, h4, h5, h6, h6_, h5_, h5u, h5v]; omega))
      refine hK118 _ _ _ ?_
      refine AW.wk [(0, AV.lst false false (List.map (AV.int .u8) v0)), (5, AV.int .u64 (bitsV .or .u64 (IntKind.wrap .u64 (v4 * 2 ^ (8))) (IntKind.wrap .u64 v6))), (12, AV.lst false false (List.map (AV.int .u8) (v0.take (8 : Int).toNat))), (13, AV.int .i64 ((v0.take (8 : Int).toNat).length : Int)), (14, AV.int .i64 v5)] [] 0 (by simp [h1, h1_, h2, h2_, h3, h3_, h4, h5, h6, h6_, h5_, h5u, h5v]) (by simp [h1, h1_, h2, h2_, h3, h3_, h4, h5, h6, h6_, h5_, h5u, h5v]) (by simp) ?_
      refine AW.region mixed [] [none, none] (by kernel_rfl) fun G121 R121 hG121 hR121 => ?_
      try simp [h1, h1_, h2, h2_, h3, h3_, h4, h5, h6, h6_, h5_, h5u, h5v]
      repeat' apply And.intro
      any_goals (first | exact hG121 _ (by kernel_rfl) | refine hR121 _ _ _ ?_ | omega | (unfold maxLen; omega) | (simp [h1, h1_, h2, h2_, h3, h3_, h4, h5, h6, h6_, h5_, h5u, h5v]; done) | (simp [h1, h1_, h2, h2_, h3, h3_, h4, h5, h6, h6_, h5_, h5u, h5v]; omega))
      refine hK113 _ _ _ ?_
      refine Can.weak [(0, AV.lst false false (List.map (AV.int .u8) v0)), (5, AV.int .u64 (bitsV .or .u64 (IntKind.wrap .u64 (v4 * 2 ^ (8))) (IntKind.wrap .u64 v6))), (12, AV.lst false false (List.map (AV.int .u8) (v0.take (8 : Int).toNat))), (13, AV.int .i64 ((v0.take (8 : Int).toNat).length : Int)), (14, AV.int .i64 (IntKind.wrap .i64 (v5 + 1)))] [] 0 (by simp [h1, h1_, h2, h2_, h3, h3_, h4, h5, h6, h6_, h5_, h5u, h5v]) (by simp [h1, h1_, h2, h2_, h3, h3_, h4, h5, h6, h6_, h5_, h5u, h5v]) (by simp) ?_
      exact Can.next (k' := n1) ((bitsV .or .u64 (IntKind.wrap .u64 (v4 * 2 ^ (8))) (IntKind.wrap .u64 v6), IntKind.wrap .i64 (v5 + 1))) (by omega) hF (by simp [h1, h1_, h2, h2_, h3, h3_, h4, h5, h6, h6_, h5_, h5u, h5v]) (by simp [h1, h1_, h2, h2_, h3, h3_, h4, h5, h6, h6_, h5_, h5u, h5v]) (by simp)
    · replace hF := ite_f h3 hF
      have h3_ := h3
      try simp at h3_
      refine AW.condF (by decide) (by first | (simp [h1, h1_, h2, h2_, h3, h3_]; done) | (simp [h1, h1_, h2, h2_, h3, h3_]; omega)) ?_
      refine AW.exit ?_
      try simp
      refine hK95 _ _ _ ?_
      refine AW.seqR mixed [] [none, none, none, none, none, none, none, none] (by kernel_rfl) fun G122 R122 hG122 hR122 => ?_
      obtain ⟨h7, hF⟩ := chk_elim hF
      have h7_ := h7
      try simp at h7_
      try simp [h1, h1_, h2, h2_, h3, h3_, h7, h7_]
      repeat' apply And.intro
      try any_goals (first | omega | (unfold maxLen; omega) | (simp [h1, h1_, h2, h2_, h3, h3_, h7, h7_]; done))
      obtain ⟨v7, h8, hF⟩ := bnd1_elim hF
      refine aCall_l (w_slices_Clone_byte_byte k _ _ h8) (by simp) [] [] [] rfl (.cons (.same (by simp [h1, h1_, h2, h2_, h3, h3_, h7, h7_])) .nil) (by simp [h1, h1_, h2, h2_, h3, h3_, h7, h7_]) (by decide) (by simp) (by simp) (.inl rfl) (by simp) (by simp) ?_
      try simp [h1, h1_, h2, h2_, h3, h3_, h7, h7_]
      repeat' apply And.intro
      any_goals (first | exact hG122 _ (by kernel_rfl) | refine hR122 _ _ _ ?_ | omega | (unfold maxLen; omega) | (simp [h1, h1_, h2, h2_, h3, h3_, h7, h7_]; done) | (simp [h1, h1_, h2, h2_, h3, h3_, h7, h7_]; omega))
      refine AW.wk [(2, AV.int .i64 (IntKind.wrap .i64 v4)), (3, AV.slc 0 0 1 v7.length false), (4, AV.bool true)] [(0, .grow (List.map (AV.int .u8) v7))] 1 (by simp [h1, h1_, h2, h2_, h3, h3_, h7, h7_]) (by simp [h1, h1_, h2, h2_, h3, h3_, h7, h7_]) (by simp) ?_
      simp only [Option.some.injEq, Prod.mk.injEq] at hF
      obtain ⟨e0, e1, e2⟩ := hF
      subst e0 e1 e2
      refine AW.ret (hQ _ _ _ ?_ (matchO_0 ?_)).1
      · simp [Try.f54, h1, h1_, h2, h2_, h3, h3_, h7, h7_]
      · simp [h1, h1_, h2, h2_, h3, h3_, h7, h7_]
set_option maxHeartbeats 4000000 in
theorem w_wire_TakeText (k : Nat) (v0 : (List Int)) (v1 : Int) (v2 : ByteArray) (v3 : (List Int)) (v4 : Bool) (hF : wire_TakeText k v0 v1 = some (v2, v3, v4)) :
    FCall Try.prog 55 [AV.lst false false (List.map (AV.int .u8) v0), AV.int .i64 v1] [] (AV.tup [AV.str v2, AV.lst false false (List.map (AV.int .u8) v3), AV.bool v4]) [] := by
  unfold wire_TakeText at hF
  refine FCall.enter Try.func55 rfl (by simp) (by decide) (by simp) (by simp) (by simp) (by simp) (by simp) ?_
  intro c0 w0 Q h0 hQ
  refine AW.wk [(0, AV.lst false false (List.map (AV.int .u8) v0)), (1, AV.int .i64 v1)] [] 0 (by simp) (by simp) (by simp) ?_
  refine AW.seqR mixed [] [none, none, none] (by kernel_rfl) fun G15 R15 hG15 hR15 => ?_
  try simp
  repeat' apply And.intro
  any_goals (first | exact hG15 _ (by kernel_rfl) | refine hR15 _ _ _ ?_ | omega | (unfold maxLen; omega) | (simp; done) | (simp; omega))
  refine AW.wk [(0, AV.lst false false (List.map (AV.int .u8) v0)), (1, AV.int .i64 v1)] [] 0 (by simp) (by simp) (by simp) ?_
  refine AW.seqR mixed [] [none, none, none, none, none, none, none, none, none] (by kernel_rfl) fun G16 R16 hG16 hR16 => ?_
  try simp
  repeat' apply And.intro
  try any_goals (first | omega | (unfold maxLen; omega) | (simp; done))
  obtain ⟨v5, v6, v7, h1, hF⟩ := bnd3_elim hF
  refine aCall_l (w_wire_TakeInt k _ _ _ _ h1) (by simp) [] [] [] rfl (.cons (.same (by simp)) .nil) (by simp) (by decide) (by simp) (by simp) (.inl rfl) (by simp) (by simp) ?_
  try simp
  repeat' apply And.intro
  any_goals (first | exact hG16 _ (by kernel_rfl) | refine hR16 _ _ _ ?_ | omega | (unfold maxLen; omega) | (simp; done) | (simp; omega))
  refine AW.wk [(1, AV.int .i64 v1), (7, AV.int .i64 v5), (8, AV.slc 0 0 1 v6.length false), (9, AV.bool v7)] [(0, .grow (List.map (AV.int .u8) v6))] 1 (by simp) (by simp) (by simp) ?_
  refine AW.frz 0 (o := .grow (List.map (AV.int .u8) v6)) (by simp) rfl [(8, AV.lst false false (List.map (AV.int .u8) v6))] [] ⟨(.l (by simp) (by simp) (by simp) (by simp)), trivial⟩ trivial ?_
  refine AW.wk [(1, AV.int .i64 v1), (7, AV.int .i64 v5), (8, AV.lst false false (List.map (AV.int .u8) v6)), (9, AV.bool v7)] [] 1 (by simp) (by simp) (by simp) ?_
  refine AW.seq fun K22 hK22 => ?_
  refine AW.seqR mixed [] [none, none, none, some (18, false), some (18, false), none, none, some (22, false), some (22, false), some (22, false), none, none, some (27, false), some (27, false), some (27, false), some (27, false), none] (by kernel_rfl) fun G23 R23 hG23 hR23 => ?_
  by_cases h2 : (!v7) = true
  · replace hF := ite_t h2 hF
    have h2_ := h2
    try simp at h2_
    try simp [h2, h2_]
    repeat' apply And.intro
    any_goals (first | exact hG23 _ (by kernel_rfl) | refine hR23 _ _ _ ?_ | omega | (unfold maxLen; omega) | (simp [h2, h2_]; done) | (simp [h2, h2_]; omega))
    refine AW.wk [(7, AV.int .i64 v5), (8, AV.lst false false (List.map (AV.int .u8) v6)), (32, AV.bool true)] [] 1 (by simp [h2, h2_]) (by simp [h2, h2_]) (by simp) ?_
    refine AW.condT (by decide) (by simp [h2, h2_]) ?_
    refine AW.seqR mixed [] [none, none, none] (by kernel_rfl) fun G24 R24 hG24 hR24 => ?_
    try simp [h2, h2_]
    repeat' apply And.intro
    any_goals (first | exact hG24 _ (by kernel_rfl) | refine hR24 _ _ _ ?_ | omega | (unfold maxLen; omega) | (simp [h2, h2_]; done) | (simp [h2, h2_]; omega))
    refine AW.wk [(4, AV.str (ByteArray.mk #[])), (5, AV.lst true true (List.map (AV.int .u8) ([] : List Int))), (6, AV.bool false)] [] 1 (by simp [h2, h2_]) (by simp [h2, h2_]) (by simp) ?_
    refine AW.flg [(5, AV.lst false false (List.map (AV.int .u8) ([] : List Int)))] [] ⟨(.lst (by simp)), trivial⟩ trivial (by simp) ?_
    simp only [Option.some.injEq, Prod.mk.injEq] at hF
    obtain ⟨e0, e1, e2⟩ := hF
    subst e0 e1 e2
    refine AW.ret (hQ _ _ _ ?_ (matchO_0 ?_)).1
    · simp [Try.f55, h2, h2_]
    · simp [h2, h2_]
  · replace hF := ite_f h2 hF
    have h2_ := h2
    try simp at h2_
    by_cases h3 : v5 < 0
    · replace hF := ite_t h3 hF
      have h3_ := h3
      try simp at h3_
      try simp [h2, h2_, h3, h3_]
      repeat' apply And.intro
      any_goals (first | exact hG23 _ (by kernel_rfl) | refine hR23 _ _ _ ?_ | omega | (unfold maxLen; omega) | (simp [h2, h2_, h3, h3_]; done) | (simp [h2, h2_, h3, h3_]; omega))
      refine AW.wk [(7, AV.int .i64 v5), (8, AV.lst false false (List.map (AV.int .u8) v6)), (32, AV.bool true)] [] 1 (by simp [h2, h2_, h3, h3_]) (by simp [h2, h2_, h3, h3_]) (by simp) ?_
      refine AW.condT (by decide) (by simp [h2, h2_, h3, h3_]) ?_
      refine AW.seqR mixed [] [none, none, none] (by kernel_rfl) fun G25 R25 hG25 hR25 => ?_
      try simp [h2, h2_, h3, h3_]
      repeat' apply And.intro
      any_goals (first | exact hG25 _ (by kernel_rfl) | refine hR25 _ _ _ ?_ | omega | (unfold maxLen; omega) | (simp [h2, h2_, h3, h3_]; done) | (simp [h2, h2_, h3, h3_]; omega))
      refine AW.wk [(4, AV.str (ByteArray.mk #[])), (5, AV.lst true true (List.map (AV.int .u8) ([] : List Int))), (6, AV.bool false)] [] 1 (by simp [h2, h2_, h3, h3_]) (by simp [h2, h2_, h3, h3_]) (by simp) ?_
      refine AW.flg [(5, AV.lst false false (List.map (AV.int .u8) ([] : List Int)))] [] ⟨(.lst (by simp)), trivial⟩ trivial (by simp) ?_
      simp only [Option.some.injEq, Prod.mk.injEq] at hF
      obtain ⟨e0, e1, e2⟩ := hF
      subst e0 e1 e2
      refine AW.ret (hQ _ _ _ ?_ (matchO_0 ?_)).1
      · simp [Try.f55, h2, h2_, h3, h3_]
      · simp [h2, h2_, h3, h3_]
    · replace hF := ite_f h3 hF
      have h3_ := h3
      try simp at h3_
      by_cases h4 : v1 < v5
      · replace hF := ite_t h4 hF
        have h4_ := h4
        try simp at h4_
        try simp [h2, h2_, h3, h3_, h4, h4_]
        repeat' apply And.intro
        any_goals (first | exact hG23 _ (by kernel_rfl) | refine hR23 _ _ _ ?_ | omega | (unfold maxLen; omega) | (simp [h2, h2_, h3, h3_, h4, h4_]; done) | (simp [h2, h2_, h3, h3_, h4, h4_]; omega))
        refine AW.wk [(7, AV.int .i64 v5), (8, AV.lst false false (List.map (AV.int .u8) v6)), (32, AV.bool true)] [] 1 (by simp [h2, h2_, h3, h3_, h4, h4_]) (by simp [h2, h2_, h3, h3_, h4, h4_]) (by simp) ?_
        refine AW.condT (by decide) (by simp [h2, h2_, h3, h3_, h4, h4_]) ?_
        refine AW.seqR mixed [] [none, none, none] (by kernel_rfl) fun G26 R26 hG26 hR26 => ?_
        try simp [h2, h2_, h3, h3_, h4, h4_]
        repeat' apply And.intro
        any_goals (first | exact hG26 _ (by kernel_rfl) | refine hR26 _ _ _ ?_ | omega | (unfold maxLen; omega) | (simp [h2, h2_, h3, h3_, h4, h4_]; done) | (simp [h2, h2_, h3, h3_, h4, h4_]; omega))
        refine AW.wk [(4, AV.str (ByteArray.mk #[])), (5, AV.lst true true (List.map (AV.int .u8) ([] : List Int))), (6, AV.bool false)] [] 1 (by simp [h2, h2_, h3, h3_, h4, h4_]) (by simp [h2, h2_, h3, h3_, h4, h4_]) (by simp) ?_
        refine AW.flg [(5, AV.lst false false (List.map (AV.int .u8) ([] : List Int)))] [] ⟨(.lst (by simp)), trivial⟩ trivial (by simp) ?_
        simp only [Option.some.injEq, Prod.mk.injEq] at hF
        obtain ⟨e0, e1, e2⟩ := hF
        subst e0 e1 e2
        refine AW.ret (hQ _ _ _ ?_ (matchO_0 ?_)).1
        · simp [Try.f55, h2, h2_, h3, h3_, h4, h4_]
        · simp [h2, h2_, h3, h3_, h4, h4_]
      · replace hF := ite_f h4 hF
        have h4_ := h4
        try simp at h4_
        try simp [h2, h2_, h3, h3_, h4, h4_]
        repeat' apply And.intro
        any_goals (first | exact hG23 _ (by kernel_rfl) | refine hR23 _ _ _ ?_ | omega | (unfold maxLen; omega) | (simp [h2, h2_, h3, h3_, h4, h4_]; done) | (simp [h2, h2_, h3, h3_, h4, h4_]; omega))
        refine AW.wk [(7, AV.int .i64 v5), (8, AV.lst false false (List.map (AV.int .u8) v6)), (32, AV.bool (decide ((v6.length : Int) < v5)))] [] 1 (by simp [h2, h2_, h3, h3_, h4, h4_]) (by simp [h2, h2_, h3, h3_, h4, h4_]) (by simp) ?_
        by_cases h5 : (v6.length : Int) < v5
        · replace hF := ite_t h5 hF
          have h5_ := h5
          try simp at h5_
          refine AW.condT (by decide) (by first | (simp [h2, h2_, h3, h3_, h4, h4_, h5, h5_]; done) | (simp [h2, h2_, h3, h3_, h4, h4_, h5, h5_]; omega)) ?_
          refine AW.seqR mixed [] [none, none, none] (by kernel_rfl) fun G27 R27 hG27 hR27 => ?_
          try simp [h2, h2_, h3, h3_, h4, h4_, h5, h5_]
          repeat' apply And.intro
          any_goals (first | exact hG27 _ (by kernel_rfl) | refine hR27 _ _ _ ?_ | omega | (unfold maxLen; omega) | (simp [h2, h2_, h3, h3_, h4, h4_, h5, h5_]; done) | (simp [h2, h2_, h3, h3_, h4, h4_, h5, h5_]; omega))
          refine AW.wk [(4, AV.str (ByteArray.mk #[])), (5, AV.lst true true (List.map (AV.int .u8) ([] : List Int))), (6, AV.bool false)] [] 1 (by simp [h2, h2_, h3, h3_, h4, h4_, h5, h5_]) (by simp [h2, h2_, h3, h3_, h4, h4_, h5, h5_]) (by simp) ?_
          refine AW.flg [(5, AV.lst false false (List.map (AV.int .u8) ([] : List Int)))] [] ⟨(.lst (by simp)), trivial⟩ trivial (by simp) ?_
          simp only [Option.some.injEq, Prod.mk.injEq] at hF
          obtain ⟨e0, e1, e2⟩ := hF
          subst e0 e1 e2
          refine AW.ret (hQ _ _ _ ?_ (matchO_0 ?_)).1
          · simp [Try.f55, h2, h2_, h3, h3_, h4, h4_, h5, h5_]
          · simp [h2, h2_, h3, h3_, h4, h4_, h5, h5_]
        · replace hF := ite_f h5 hF
          have h5_ := h5
          try simp at h5_
          refine AW.condF (by decide) (by first | (simp [h2, h2_, h3, h3_, h4, h4_, h5, h5_]; done) | (simp [h2, h2_, h3, h3_, h4, h4_, h5, h5_]; omega)) ?_
          refine AW.skip ?_
          refine hK22 _ _ _ ?_
          refine AW.seqR mixed [] [none, none, none, none, none, none, none, none, none, none] (by kernel_rfl) fun G28 R28 hG28 hR28 => ?_
          obtain ⟨⟨h6, h7⟩, hF⟩ := chk_elim hF
          have h6_ := h6
          try simp at h6_
          have h7_ := h7
          try simp at h7_
          obtain ⟨⟨h8, h9⟩, hF⟩ := chk_elim hF
          have h8_ := h8
          try simp at h8_
          have h9_ := h9
          try simp at h9_
          try simp [h2, h2_, h3, h3_, h4, h4_, h5, h5_, h6, h7, h6_, h7_, h8, h9, h8_, h9_]
          repeat' apply And.intro
          any_goals (first | exact hG28 _ (by kernel_rfl) | refine hR28 _ _ _ ?_ | omega | (unfold maxLen; omega) | (simp [h2, h2_, h3, h3_, h4, h4_, h5, h5_, h6, h7, h6_, h7_, h8, h9, h8_, h9_]; done) | (simp [h2, h2_, h3, h3_, h4, h4_, h5, h5_, h6, h7, h6_, h7_, h8, h9, h8_, h9_]; omega))
          refine AW.wk [(4, AV.str (ofI (v6.take (v5).toNat))), (5, AV.lst false false (List.map (AV.int .u8) (v6.drop (v5).toNat))), (6, AV.bool true)] [] 1 (by simp [h2, h2_, h3, h3_, h4, h4_, h5, h5_, h6, h7, h6_, h7_, h8, h9, h8_, h9_]) (by simp [h2, h2_, h3, h3_, h4, h4_, h5, h5_, h6, h7, h6_, h7_, h8, h9, h8_, h9_]) (by simp) ?_
          simp only [Option.some.injEq, Prod.mk.injEq] at hF
          obtain ⟨e0, e1, e2⟩ := hF
          subst e0 e1 e2
          refine AW.ret (hQ _ _ _ ?_ (matchO_0 ?_)).1
          · simp [Try.f55, h2, h2_, h3, h3_, h4, h4_, h5, h5_, h6, h7, h6_, h7_, h8, h9, h8_, h9_]
          · simp [h2, h2_, h3, h3_, h4, h4_, h5, h5_, h6, h7, h6_, h7_, h8, h9, h8_, h9_]
set_option maxHeartbeats 4000000 in
theorem w_law02_awake (k : Nat) (v0 : Bool) (hF : law02_awake k = some v0) :
    FCall Try.prog 26 [] [] (AV.bool v0) [] := by
  unfold law02_awake at hF
  refine FCall.enter Try.func26 rfl (by simp) (by decide) (by simp) (by simp) (by simp) (by simp) (by simp) ?_
  intro c0 w0 Q h0 hQ
  refine AW.wk [] [] 0 (by simp) (by simp) (by simp) ?_
  refine AW.seqR mixed [] [none] (by kernel_rfl) fun G5 R5 hG5 hR5 => ?_
  try simp
  repeat' apply And.intro
  any_goals (first | exact hG5 _ (by kernel_rfl) | refine hR5 _ _ _ ?_ | omega | (unfold maxLen; omega) | (simp; done) | (simp; omega))
  refine AW.wk [] [] 0 (by simp) (by simp) (by simp) ?_
  refine AW.seqR mixed [] [none, none] (by kernel_rfl) fun G6 R6 hG6 hR6 => ?_
  try simp
  repeat' apply And.intro
  try any_goals (first | omega | (unfold maxLen; omega) | (simp; done))
  obtain ⟨v1, h1, hF⟩ := bnd1_elim hF
  refine aCall_l (w_wire_Text k _ _ _ h1) (by simp) [] [] [] rfl (.cons (Coe.fl (by simp)) (.cons (.same (by simp)) .nil)) (by simp) (by decide) (by simp) (by simp) (.inl rfl) (by simp) (by simp) ?_
  try simp
  repeat' apply And.intro
  any_goals (first | exact hG6 _ (by kernel_rfl) | refine hR6 _ _ _ ?_ | omega | (unfold maxLen; omega) | (simp; done) | (simp; omega))
  refine AW.wk [(1, AV.slc 0 0 1 v1.length false)] [(0, .grow (List.map (AV.int .u8) v1))] 1 (by simp) (by simp) (by simp) ?_
  refine AW.frz 0 (o := .grow (List.map (AV.int .u8) v1)) (by simp) rfl [(1, AV.lst false false (List.map (AV.int .u8) v1))] [] ⟨(.l (by simp) (by simp) (by simp) (by simp)), trivial⟩ trivial ?_
  refine AW.wk [(1, AV.lst false false (List.map (AV.int .u8) v1))] [] 1 (by simp) (by simp) (by simp) ?_
  refine AW.seqR mixed [] [none, none, none, none, none, none, none, none, none] (by kernel_rfl) fun G7 R7 hG7 hR7 => ?_
  try simp
  repeat' apply And.intro
  try any_goals (first | omega | (unfold maxLen; omega) | (simp; done))
  obtain ⟨v2, v3, v4, h2, hF⟩ := bnd3_elim hF
  refine aCall_l (w_wire_TakeText k _ _ _ _ _ h2) (by simp) [] [] [] rfl (.cons (.same (by simp)) (.cons (.same (by simp)) .nil)) (by simp) (by decide) (by simp) (by simp) (.inl rfl) (by simp) (by simp) ?_
  try simp
  repeat' apply And.intro
  any_goals (first | exact hG7 _ (by kernel_rfl) | refine hR7 _ _ _ ?_ | omega | (unfold maxLen; omega) | (simp; done) | (simp; omega))
  refine AW.wk [(1, AV.lst false false (List.map (AV.int .u8) v1)), (2, AV.str v2), (3, AV.lst false false (List.map (AV.int .u8) v3)), (4, AV.bool v4)] [] 1 (by simp) (by simp) (by simp) ?_
  refine AW.seqR mixed [] [none, none, none, none, some (15, true), some (15, true), some (15, true), some (15, true), none, none, some (21, true), some (21, true), some (21, true), some (21, true), none, none, some (27, true), none, none, some (30, true), some (30, true), none, none, some (34, true), some (34, true), some (34, true), none, none] (by kernel_rfl) fun G8 R8 hG8 hR8 => ?_
  by_cases h3 : (v1.length : Int) = 10
  · replace hF := ite_t h3 hF
    have h3q : (v1.length : Int) = 10 := h3
    have h3_ := eqb_t h3q
    have h3__ := neb_f h3q
    obtain ⟨v5, h4, h5, h6, hF⟩ := idx_elim hF
    have h6_ := get_of h6
    try simp at h6_
    have h5_ := h5
    try simp at h5_
    by_cases h7 : v5 = 2
    · replace hF := ite_t h7 hF
      have h7q : v5 = 2 := h7
      have h7_ := eqb_t h7q
      have h7__ := neb_f h7q
      obtain ⟨v6, h8, h9, h10, hF⟩ := idx_elim hF
      have h10_ := get_of h10
      try simp at h10_
      have h9_ := h9
      try simp at h9_
      by_cases h11 : v6 = 98
      · replace hF := ite_t h11 hF
        have h11q : v6 = 98 := h11
        have h11_ := eqb_t h11q
        have h11__ := neb_f h11q
        by_cases h12 : v4 = true
        · replace hF := ite_t h12 hF
          have h12_ := h12
          try simp at h12_
          by_cases h13 : (strEq v2 (ByteArray.mk #[97, 98])) = true
          · replace hF := ite_t h13 hF
            have h13_ := h13
            try simp at h13_
            try simp [h3_, h3__, h3q, h4, h5, h6, h6_, h5_, h7_, h7__, h7q, h8, h9, h10, h10_, h9_, h11_, h11__, h11q, h12, h12_, h13, h13_]
            repeat' apply And.intro
            any_goals (first | exact hG8 _ (by kernel_rfl) | refine hR8 _ _ _ ?_ | omega | (unfold maxLen; omega) | (simp [h3_, h3__, h3q, h4, h5, h6, h6_, h5_, h7_, h7__, h7q, h8, h9, h10, h10_, h9_, h11_, h11__, h11q, h12, h12_, h13, h13_]; done) | (simp [h3_, h3__, h3q, h4, h5, h6, h6_, h5_, h7_, h7__, h7q, h8, h9, h10, h10_, h9_, h11_, h11__, h11q, h12, h12_, h13, h13_]; omega))
            refine AW.wk [(0, AV.bool ((v3.length : Int) == 0))] [] 1 (by simp [h3_, h3__, h3q, h4, h5, h6, h6_, h5_, h7_, h7__, h7q, h8, h9, h10, h10_, h9_, h11_, h11__, h11q, h12, h12_, h13, h13_]) (by simp [h3_, h3__, h3q, h4, h5, h6, h6_, h5_, h7_, h7__, h7q, h8, h9, h10, h10_, h9_, h11_, h11__, h11q, h12, h12_, h13, h13_]) (by simp) ?_
            simp only [Option.some.injEq] at hF
            subst hF
            refine AW.ret (hQ _ _ _ ?_ (matchO_0 ?_)).1
            · simp [Try.f26, h3_, h3__, h3q, h4, h5, h6, h6_, h5_, h7_, h7__, h7q, h8, h9, h10, h10_, h9_, h11_, h11__, h11q, h12, h12_, h13, h13_]
            · simp [h3_, h3__, h3q, h4, h5, h6, h6_, h5_, h7_, h7__, h7q, h8, h9, h10, h10_, h9_, h11_, h11__, h11q, h12, h12_, h13, h13_]
          · replace hF := ite_f h13 hF
            have h13_ := h13
            try simp at h13_
            try simp [h3_, h3__, h3q, h4, h5, h6, h6_, h5_, h7_, h7__, h7q, h8, h9, h10, h10_, h9_, h11_, h11__, h11q, h12, h12_, h13, h13_]
            repeat' apply And.intro
            any_goals (first | exact hG8 _ (by kernel_rfl) | refine hR8 _ _ _ ?_ | omega | (unfold maxLen; omega) | (simp [h3_, h3__, h3q, h4, h5, h6, h6_, h5_, h7_, h7__, h7q, h8, h9, h10, h10_, h9_, h11_, h11__, h11q, h12, h12_, h13, h13_]; done) | (simp [h3_, h3__, h3q, h4, h5, h6, h6_, h5_, h7_, h7__, h7q, h8, h9, h10, h10_, h9_, h11_, h11__, h11q, h12, h12_, h13, h13_]; omega))
            refine AW.wk [(0, AV.bool false)] [] 1 (by simp [h3_, h3__, h3q, h4, h5, h6, h6_, h5_, h7_, h7__, h7q, h8, h9, h10, h10_, h9_, h11_, h11__, h11q, h12, h12_, h13, h13_]) (by simp [h3_, h3__, h3q, h4, h5, h6, h6_, h5_, h7_, h7__, h7q, h8, h9, h10, h10_, h9_, h11_, h11__, h11q, h12, h12_, h13, h13_]) (by simp) ?_
            simp only [Option.some.injEq] at hF
            subst hF
            refine AW.ret (hQ _ _ _ ?_ (matchO_0 ?_)).1
            · simp [Try.f26, h3_, h3__, h3q, h4, h5, h6, h6_, h5_, h7_, h7__, h7q, h8, h9, h10, h10_, h9_, h11_, h11__, h11q, h12, h12_, h13, h13_]
            · simp [h3_, h3__, h3q, h4, h5, h6, h6_, h5_, h7_, h7__, h7q, h8, h9, h10, h10_, h9_, h11_, h11__, h11q, h12, h12_, h13, h13_]
        · replace hF := ite_f h12 hF
          have h12_ := h12
          try simp at h12_
          try simp [h3_, h3__, h3q, h4, h5, h6, h6_, h5_, h7_, h7__, h7q, h8, h9, h10, h10_, h9_, h11_, h11__, h11q, h12, h12_]
          repeat' apply And.intro
          any_goals (first | exact hG8 _ (by kernel_rfl) | refine hR8 _ _ _ ?_ | omega | (unfold maxLen; omega) | (simp [h3_, h3__, h3q, h4, h5, h6, h6_, h5_, h7_, h7__, h7q, h8, h9, h10, h10_, h9_, h11_, h11__, h11q, h12, h12_]; done) | (simp [h3_, h3__, h3q, h4, h5, h6, h6_, h5_, h7_, h7__, h7q, h8, h9, h10, h10_, h9_, h11_, h11__, h11q, h12, h12_]; omega))
          refine AW.wk [(0, AV.bool false)] [] 1 (by simp [h3_, h3__, h3q, h4, h5, h6, h6_, h5_, h7_, h7__, h7q, h8, h9, h10, h10_, h9_, h11_, h11__, h11q, h12, h12_]) (by simp [h3_, h3__, h3q, h4, h5, h6, h6_, h5_, h7_, h7__, h7q, h8, h9, h10, h10_, h9_, h11_, h11__, h11q, h12, h12_]) (by simp) ?_
          simp only [Option.some.injEq] at hF
          subst hF
          refine AW.ret (hQ _ _ _ ?_ (matchO_0 ?_)).1
          · simp [Try.f26, h3_, h3__, h3q, h4, h5, h6, h6_, h5_, h7_, h7__, h7q, h8, h9, h10, h10_, h9_, h11_, h11__, h11q, h12, h12_]
          · simp [h3_, h3__, h3q, h4, h5, h6, h6_, h5_, h7_, h7__, h7q, h8, h9, h10, h10_, h9_, h11_, h11__, h11q, h12, h12_]
      · replace hF := ite_f h11 hF
        have h11_ := eqb_f h11
        have h11__ := neb_t h11
        try simp [h3_, h3__, h3q, h4, h5, h6, h6_, h5_, h7_, h7__, h7q, h8, h9, h10, h10_, h9_, h11, h11_, h11__]
        repeat' apply And.intro
        any_goals (first | exact hG8 _ (by kernel_rfl) | refine hR8 _ _ _ ?_ | omega | (unfold maxLen; omega) | (simp [h3_, h3__, h3q, h4, h5, h6, h6_, h5_, h7_, h7__, h7q, h8, h9, h10, h10_, h9_, h11, h11_, h11__]; done) | (simp [h3_, h3__, h3q, h4, h5, h6, h6_, h5_, h7_, h7__, h7q, h8, h9, h10, h10_, h9_, h11, h11_, h11__]; omega))
        refine AW.wk [(0, AV.bool false)] [] 1 (by simp [h3_, h3__, h3q, h4, h5, h6, h6_, h5_, h7_, h7__, h7q, h8, h9, h10, h10_, h9_, h11, h11_, h11__]) (by simp [h3_, h3__, h3q, h4, h5, h6, h6_, h5_, h7_, h7__, h7q, h8, h9, h10, h10_, h9_, h11, h11_, h11__]) (by simp) ?_
        simp only [Option.some.injEq] at hF
        subst hF
        refine AW.ret (hQ _ _ _ ?_ (matchO_0 ?_)).1
        · simp [Try.f26, h3_, h3__, h3q, h4, h5, h6, h6_, h5_, h7_, h7__, h7q, h8, h9, h10, h10_, h9_, h11, h11_, h11__]
        · simp [h3_, h3__, h3q, h4, h5, h6, h6_, h5_, h7_, h7__, h7q, h8, h9, h10, h10_, h9_, h11, h11_, h11__]
    · replace hF := ite_f h7 hF
      have h7_ := eqb_f h7
      have h7__ := neb_t h7
      try simp [h3_, h3__, h3q, h4, h5, h6, h6_, h5_, h7, h7_, h7__]
      repeat' apply And.intro
      any_goals (first | exact hG8 _ (by kernel_rfl) | refine hR8 _ _ _ ?_ | omega | (unfold maxLen; omega) | (simp [h3_, h3__, h3q, h4, h5, h6, h6_, h5_, h7, h7_, h7__]; done) | (simp [h3_, h3__, h3q, h4, h5, h6, h6_, h5_, h7, h7_, h7__]; omega))
      refine AW.wk [(0, AV.bool false)] [] 1 (by simp [h3_, h3__, h3q, h4, h5, h6, h6_, h5_, h7, h7_, h7__]) (by simp [h3_, h3__, h3q, h4, h5, h6, h6_, h5_, h7, h7_, h7__]) (by simp) ?_
      simp only [Option.some.injEq] at hF
      subst hF
      refine AW.ret (hQ _ _ _ ?_ (matchO_0 ?_)).1
      · simp [Try.f26, h3_, h3__, h3q, h4, h5, h6, h6_, h5_, h7, h7_, h7__]
      · simp [h3_, h3__, h3q, h4, h5, h6, h6_, h5_, h7, h7_, h7__]
  · replace hF := ite_f h3 hF
    have h3_ := eqb_f h3
    have h3__ := neb_t h3
    try simp [h3, h3_, h3__]
    repeat' apply And.intro
    any_goals (first | exact hG8 _ (by kernel_rfl) | refine hR8 _ _ _ ?_ | omega | (unfold maxLen; omega) | (simp [h3, h3_, h3__]; done) | (simp [h3, h3_, h3__]; omega))
    refine AW.wk [(0, AV.bool false)] [] 1 (by simp [h3, h3_, h3__]) (by simp [h3, h3_, h3__]) (by simp) ?_
    simp only [Option.some.injEq] at hF
    subst hF
    refine AW.ret (hQ _ _ _ ?_ (matchO_0 ?_)).1
    · simp [Try.f26, h3, h3_, h3__]
    · simp [h3, h3_, h3__]
set_option maxHeartbeats 4000000 in
theorem w_ref02_Int (k : Nat) (v0 : (List Int)) (v1 : Int) (v2 : (List Int)) (hF : ref02_Int k v0 v1 = some v2) :
    FCall Try.prog 28 [AV.lst false false (List.map (AV.int .u8) v0), AV.int .i64 v1] [] (AV.slc 0 0 1 v2.length false) [some (.grow (List.map (AV.int .u8) v2))] := by
  unfold ref02_Int at hF
  refine FCall.enter Try.func28 rfl (by simp) (by decide) (by simp) (by simp) (by simp) (by simp) (by simp) ?_
  intro c0 w0 Q h0 hQ
  refine AW.wk [(0, AV.lst false false (List.map (AV.int .u8) v0)), (1, AV.int .i64 v1)] [] 0 (by simp) (by simp) (by simp) ?_
  refine AW.seqR mixed [] [none] (by kernel_rfl) fun G51 R51 hG51 hR51 => ?_
  try simp
  repeat' apply And.intro
  any_goals (first | exact hG51 _ (by kernel_rfl) | refine hR51 _ _ _ ?_ | omega | (unfold maxLen; omega) | (simp; done) | (simp; omega))
  refine AW.wk [(0, AV.lst false false (List.map (AV.int .u8) v0)), (1, AV.int .i64 v1)] [] 0 (by simp) (by simp) (by simp) ?_
  refine AW.seqR mixed [8] [none, none, none] (by kernel_rfl) fun G52 R52 hG52 hR52 => ?_
  obtain ⟨h1, hF⟩ := chk_elim hF
  have h1_ := h1
  try simp at h1_
  try simp [h1]
  repeat' apply And.intro
  any_goals (first | exact hG52 _ (by kernel_rfl) | refine hR52 _ _ _ ?_ | omega | (unfold maxLen; omega) | (simp [h1]; done) | (simp [h1]; omega))
  refine AW.wk [(1, AV.int .i64 v1), (5, AV.slc 0 0 1 v0.length false)] [(0, .grow (List.map (AV.int .u8) v0))] 1 (by simp [h1]) (by simp [h1]) (by simp) ?_
  refine AW.seq fun K76 hK76 => ?_
  refine AW.seqR mixed [] [none] (by kernel_rfl) fun G77 R77 hG77 hR77 => ?_
  try simp [h1]
  repeat' apply And.intro
  any_goals (first | exact hG77 _ (by kernel_rfl) | refine hR77 _ _ _ ?_ | omega | (unfold maxLen; omega) | (simp [h1]; done) | (simp [h1]; omega))
  refine AW.wk [(1, AV.int .i64 v1), (5, AV.slc 0 0 1 v0.length false), (6, AV.int .i64 7)] [(0, .grow (List.map (AV.int .u8) v0))] 1 (by simp [h1]) (by simp [h1]) (by simp) ?_
  refine AW.block ?_
  refine AW.loopF (α := (Int × (List Int))) (fun n (v3, v4) => ref02_Int.L1 k v1 n v3 v4 = some v2) (fun (v3, v4) => [(1, AV.int .i64 v1), (5, AV.slc 0 0 1 v4.length false), (6, AV.int .i64 v3)]) (fun (v3, v4) => [(0, .grow (List.map (AV.int .u8) v4))]) 1 k ((7, v0)) hF (by simp [h1]) (by simp [h1]) (by simp) ?_
  rintro (_|n1) ⟨v3, v4⟩ hF K92 hK92
  · try dsimp only at hF
    rw [ref02_Int.L1] at hF; cases hF
  try dsimp only at hF
  rw [ref02_Int.L1] at hF
  refine AW.seq fun K94 hK94 => ?_
  refine AW.seqR mixed [] [none, none] (by kernel_rfl) fun G95 R95 hG95 hR95 => ?_
  try simp [h1]
  repeat' apply And.intro
  any_goals (first | exact hG95 _ (by kernel_rfl) | refine hR95 _ _ _ ?_ | omega | (unfold maxLen; omega) | (simp [h1]; done) | (simp [h1]; omega))
  refine AW.wk [(1, AV.int .i64 v1), (5, AV.slc 0 0 1 v4.length false), (6, AV.int .i64 v3), (10, AV.bool (decide (0 ≤ v3)))] [(0, .grow (List.map (AV.int .u8) v4))] 1 (by simp [h1]) (by simp [h1]) (by simp) ?_
  by_cases h2 : 0 ≤ v3
  · replace hF := ite_t h2 hF
    have h2_ := h2
    try simp at h2_
    refine AW.condT (by decide) (by first | (simp [h1, h2, h2_]; done) | (simp [h1, h2, h2_]; omega)) ?_
    refine AW.skip ?_
    refine hK94 _ _ _ ?_
    refine AW.seq fun K97 hK97 => ?_
    refine AW.block ?_
    refine AW.region mixed [] [none, none, none, none, none, none, none, none, none, none] (by kernel_rfl) fun G98 R98 hG98 hR98 => ?_
    obtain ⟨h3, hF⟩ := chk_elim hF
    obtain ⟨h4, hF⟩ := chk_elim hF
    have h4_ := h4
    try simp at h4_
    try simp [h1, h2, h2_, h3, h4]
    repeat' apply And.intro
    any_goals (first | exact hG98 _ (by kernel_rfl) | refine hR98 _ _ _ ?_ | omega | (unfold maxLen; omega) | (simp [h1, h2, h2_, h3, h4]; done) | (simp [h1, h2, h2_, h3, h4]; omega))
    refine hK97 _ _ _ ?_
    refine AW.wk [(1, AV.int .i64 v1), (5, AV.slc 1 0 1 ((v4 ++ ([IntKind.wrap .u8 (Int.fdiv v1 (2 ^ (min ((IntKind.wrap .u64 (IntKind.wrap .i64 (8 * v3))).toNat) 64)))] : List Int)).length) false), (6, AV.int .i64 v3)] [(1, .grow (List.map (AV.int .u8) (v4 ++ ([IntKind.wrap .u8 (Int.fdiv v1 (2 ^ (min ((IntKind.wrap .u64 (IntKind.wrap .i64 (8 * v3))).toNat) 64)))] : List Int))))] 2 (by simp [h1, h2, h2_, h3, h4]) (by simp [h1, h2, h2_, h3, h4]) (by simp) ?_
    refine AW.region mixed [] [none, none, none] (by kernel_rfl) fun G99 R99 hG99 hR99 => ?_
    try simp [h1, h2, h2_, h3, h4]
    repeat' apply And.intro
    any_goals (first | exact hG99 _ (by kernel_rfl) | refine hR99 _ _ _ ?_ | omega | (unfold maxLen; omega) | (simp [h1, h2, h2_, h3, h4]; done) | (simp [h1, h2, h2_, h3, h4]; omega))
    refine hK92 _ _ _ ?_
    refine Can.weak [(1, AV.int .i64 v1), (5, AV.slc 1 0 1 ((v4 ++ ([IntKind.wrap .u8 (Int.fdiv v1 (2 ^ (min ((IntKind.wrap .u64 (IntKind.wrap .i64 (8 * v3))).toNat) 64)))] : List Int)).length) false), (6, AV.int .i64 (IntKind.wrap .i64 (v3 - 1)))] [(1, .grow (List.map (AV.int .u8) (v4 ++ ([IntKind.wrap .u8 (Int.fdiv v1 (2 ^ (min ((IntKind.wrap .u64 (IntKind.wrap .i64 (8 * v3))).toNat) 64)))] : List Int))))] 2 (by simp [h1, h2, h2_, h3, h4]) (by simp [h1, h2, h2_, h3, h4]) (by simp) ?_
    refine Can.ren (m := 0) h0 [(0, 1)] [(1, AV.int .i64 v1), (5, AV.slc 0 0 1 ((v4 ++ ([IntKind.wrap .u8 (Int.fdiv v1 (2 ^ (min ((IntKind.wrap .u64 (IntKind.wrap .i64 (8 * v3))).toNat) 64)))] : List Int)).length) false), (6, AV.int .i64 (IntKind.wrap .i64 (v3 - 1)))] [(0, .grow (List.map (AV.int .u8) (v4 ++ ([IntKind.wrap .u8 (Int.fdiv v1 (2 ^ (min ((IntKind.wrap .u64 (IntKind.wrap .i64 (8 * v3))).toNat) 64)))] : List Int))))] 1 (by decide) (by decide) (by decide) rfl (by simp [h1, h2, h2_, h3, h4]) (by simp [h1, h2, h2_, h3, h4]) ?_
    exact Can.next (k' := n1) ((IntKind.wrap .i64 (v3 - 1), v4 ++ ([IntKind.wrap .u8 (Int.fdiv v1 (2 ^ (min ((IntKind.wrap .u64 (IntKind.wrap .i64 (8 * v3))).toNat) 64)))] : List Int))) (by omega) hF (by simp [h1, h2, h2_, h3, h4]) (by simp [h1, h2, h2_, h3, h4]) (by simp)
  · replace hF := ite_f h2 hF
    have h2_ := h2
    try simp at h2_
    refine AW.condF (by decide) (by first | (simp [h1, h2, h2_]; done) | (simp [h1, h2, h2_]; omega)) ?_
    refine AW.exit ?_
    try simp
    refine hK76 _ _ _ ?_
    refine AW.seqR mixed [] [none, none] (by kernel_rfl) fun G100 R100 hG100 hR100 => ?_
    try simp [h1, h2, h2_]
    repeat' apply And.intro
    any_goals (first | exact hG100 _ (by kernel_rfl) | refine hR100 _ _ _ ?_ | omega | (unfold maxLen; omega) | (simp [h1, h2, h2_]; done) | (simp [h1, h2, h2_]; omega))
    refine AW.wk [(4, AV.slc 0 0 1 v4.length false)] [(0, .grow (List.map (AV.int .u8) v4))] 1 (by simp [h1, h2, h2_]) (by simp [h1, h2, h2_]) (by simp) ?_
    simp only [Option.some.injEq] at hF
    subst hF
    refine AW.ret (hQ _ _ _ ?_ (matchO_0 ?_)).1
    · simp [Try.f28, h1, h2, h2_]
    · simp [h1, h2, h2_]
end Go.TF
