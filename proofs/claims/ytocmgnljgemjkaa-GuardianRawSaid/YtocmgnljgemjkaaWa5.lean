/- Walks: the Go text computes the Lean functions (printed by a program of our own). -/
import Derived.Test.YtocmgnljgemjkaaPu
import Derived.Test.YtocmgnljgemjkaaAbsT
import Derived.Test.YtocmgnljgemjkaaWa0
import Derived.Test.YtocmgnljgemjkaaWa2
import Derived.Test.YtocmgnljgemjkaaWa3
import Derived.Test.YtocmgnljgemjkaaWa4
set_option linter.unusedVariables false
set_option linter.unusedSimpArgs false
set_option maxRecDepth 100000
namespace Go.TF
open Go Go.Abs Go.Proofs Go.Proofs.YtocmgnljgemjkaaT
set_option maxHeartbeats 4000000 in
theorem w_ref02_Text (k : Nat) (v0 : (List Int)) (v1 : ByteArray) (v2 : (List Int)) (hF : ref02_Text k v0 v1 = some v2) :
    FCall Try.prog 30 [AV.lst false false (List.map (AV.int .u8) v0), AV.str v1] [] (AV.slc 0 0 1 v2.length false) [some (.grow (List.map (AV.int .u8) v2))] := by
  unfold ref02_Text at hF
  refine FCall.enter Try.func30 rfl (by simp) (by decide) (by simp) (by simp) (by simp) (by simp) (by simp) ?_
  intro c0 w0 Q h0 hQ
  refine AW.wk [(0, AV.lst false false (List.map (AV.int .u8) v0)), (1, AV.str v1)] [] 0 (by simp) (by simp) (by simp) ?_
  refine AW.seqR mixed [] [none] (by kernel_rfl) fun G3 R3 hG3 hR3 => ?_
  try simp
  repeat' apply And.intro
  any_goals (first | exact hG3 _ (by kernel_rfl) | refine hR3 _ _ _ ?_ | omega | (unfold maxLen; omega) | (simp; done) | (simp; omega))
  refine AW.wk [(0, AV.lst false false (List.map (AV.int .u8) v0)), (1, AV.str v1)] [] 0 (by simp) (by simp) (by simp) ?_
  refine AW.seqR mixed [] [none, none, none, none, none, none, none] (by kernel_rfl) fun G4 R4 hG4 hR4 => ?_
  try simp
  repeat' apply And.intro
  try any_goals (first | omega | (unfold maxLen; omega) | (simp; done))
  obtain ⟨v3, h1, hF⟩ := bnd1_elim hF
  refine aCall_l (w_ref02_Int k _ _ _ h1) (by simp) [] [] [] rfl (.cons (.same (by simp)) (.cons (.same (by simp)) .nil)) (by simp) (by decide) (by simp) (by simp) (.inl rfl) (by simp) (by simp) ?_
  obtain ⟨h2, hF⟩ := chk_elim hF
  have h2_ := h2
  try simp at h2_
  try simp [h2]
  repeat' apply And.intro
  any_goals (first | exact hG4 _ (by kernel_rfl) | refine hR4 _ _ _ ?_ | omega | (unfold maxLen; omega) | (simp [h2]; done) | (simp [h2]; omega))
  refine AW.wk [(4, AV.slc 1 0 1 ((v3 ++ (bI v1)).length) false)] [(1, .grow (List.map (AV.int .u8) (v3 ++ (bI v1))))] 2 (by simp [h2]) (by simp [h2]) (by simp) ?_
  refine AW.rnm (m := 0) h0 [(0, 1)] [(4, AV.slc 0 0 1 ((v3 ++ (bI v1)).length) false)] [(0, .grow (List.map (AV.int .u8) (v3 ++ (bI v1))))] 1 (by decide) (by decide) (by decide) rfl (by simp [h2]) (by simp [h2]) ?_
  simp only [Option.some.injEq] at hF
  subst hF
  refine AW.ret (hQ _ _ _ ?_ (matchO_0 ?_)).1
  · simp [Try.f30, h2]
  · simp [h2]
set_option maxHeartbeats 4000000 in
theorem w_wire_Ints (k : Nat) (v0 : (List Int)) (v1 : (List Int)) (v2 : (List Int)) (hF : wire_Ints k v0 v1 = some v2) :
    FCall Try.prog 31 [AV.lst false false (List.map (AV.int .u8) v0), AV.lst false false (List.map (AV.int .i64) v1)] [] (AV.slc 0 0 1 v2.length false) [some (.grow (List.map (AV.int .u8) v2))] := by
  unfold wire_Ints at hF
  refine FCall.enter Try.func31 rfl (by simp) (by decide) (by simp) (by simp) (by simp) (by simp) (by simp) ?_
  intro c0 w0 Q h0 hQ
  refine AW.wk [(0, AV.lst false false (List.map (AV.int .u8) v0)), (1, AV.lst false false (List.map (AV.int .i64) v1))] [] 0 (by simp) (by simp) (by simp) ?_
  refine AW.seqR mixed [] [none] (by kernel_rfl) fun G57 R57 hG57 hR57 => ?_
  try simp
  repeat' apply And.intro
  any_goals (first | exact hG57 _ (by kernel_rfl) | refine hR57 _ _ _ ?_ | omega | (unfold maxLen; omega) | (simp; done) | (simp; omega))
  refine AW.wk [(0, AV.lst false false (List.map (AV.int .u8) v0)), (1, AV.lst false false (List.map (AV.int .i64) v1))] [] 0 (by simp) (by simp) (by simp) ?_
  refine AW.seqR mixed [] [none, none, none, none, none] (by kernel_rfl) fun G58 R58 hG58 hR58 => ?_
  try simp
  repeat' apply And.intro
  try any_goals (first | omega | (unfold maxLen; omega) | (simp; done))
  obtain ⟨v3, h1, hF⟩ := bnd1_elim hF
  refine aCall_l (w_wire_Int k _ _ _ h1) (by simp) [] [] [] rfl (.cons (.same (by simp)) (.cons (.same (by simp)) .nil)) (by simp) (by decide) (by simp) (by simp) (.inl rfl) (by simp) (by simp) ?_
  try simp
  repeat' apply And.intro
  any_goals (first | exact hG58 _ (by kernel_rfl) | refine hR58 _ _ _ ?_ | omega | (unfold maxLen; omega) | (simp; done) | (simp; omega))
  refine AW.wk [(1, AV.lst false false (List.map (AV.int .i64) v1)), (5, AV.slc 0 0 1 v3.length false)] [(0, .grow (List.map (AV.int .u8) v3))] 1 (by simp) (by simp) (by simp) ?_
  refine AW.seq fun K85 hK85 => ?_
  refine AW.seqR mixed [] [none, none, none] (by kernel_rfl) fun G86 R86 hG86 hR86 => ?_
  try simp
  repeat' apply And.intro
  any_goals (first | exact hG86 _ (by kernel_rfl) | refine hR86 _ _ _ ?_ | omega | (unfold maxLen; omega) | (simp; done) | (simp; omega))
  refine AW.wk [(5, AV.slc 0 0 1 v3.length false), (12, AV.lst false false (List.map (AV.int .i64) v1)), (13, AV.int .i64 (v1.length : Int)), (14, AV.int .i64 0)] [(0, .grow (List.map (AV.int .u8) v3))] 1 (by simp) (by simp) (by simp) ?_
  refine AW.block ?_
  refine AW.loopF (α := (Int × (List Int))) (fun n (v4, v5) => wire_Ints.L1 k v1 n v4 v5 = some v2) (fun (v4, v5) => [(5, AV.slc 0 0 1 v5.length false), (12, AV.lst false false (List.map (AV.int .i64) v1)), (13, AV.int .i64 (v1.length : Int)), (14, AV.int .i64 v4)]) (fun (v4, v5) => [(0, .grow (List.map (AV.int .u8) v5))]) 1 k ((0, v3)) hF (by simp) (by simp) (by simp) ?_
  rintro (_|n1) ⟨v4, v5⟩ hF K103 hK103
  · try dsimp only at hF
    rw [wire_Ints.L1] at hF; cases hF
  try dsimp only at hF
  rw [wire_Ints.L1] at hF
  refine AW.seqR mixed [] [none] (by kernel_rfl) fun G104 R104 hG104 hR104 => ?_
  try simp
  repeat' apply And.intro
  any_goals (first | exact hG104 _ (by kernel_rfl) | refine hR104 _ _ _ ?_ | omega | (unfold maxLen; omega) | (simp; done) | (simp; omega))
  refine AW.wk [(5, AV.slc 0 0 1 v5.length false), (12, AV.lst false false (List.map (AV.int .i64) v1)), (13, AV.int .i64 (v1.length : Int)), (14, AV.int .i64 v4), (15, AV.bool (decide (v4 < (v1.length : Int))))] [(0, .grow (List.map (AV.int .u8) v5))] 1 (by simp) (by simp) (by simp) ?_
  refine AW.seq fun K105 hK105 => ?_
  by_cases h2 : v4 < (v1.length : Int)
  · replace hF := ite_t h2 hF
    have h2_ := h2
    try simp at h2_
    refine AW.condT (by decide) (by first | (simp [h2, h2_]; done) | (simp [h2, h2_]; omega)) ?_
    refine AW.skip ?_
    refine hK105 _ _ _ ?_
    refine AW.seq fun K108 hK108 => ?_
    refine AW.block ?_
    refine AW.seqR mixed [] [none, none, none] (by kernel_rfl) fun G109 R109 hG109 hR109 => ?_
    obtain ⟨v6, h3, h4, h5, hF⟩ := idx_elim hF
    have h5_ := get_of h5
    try simp at h5_
    have h4_ := h4
    try simp at h4_
    try simp [h2, h2_, h3, h4, h5, h5_, h4_]
    repeat' apply And.intro
    any_goals (first | exact hG109 _ (by kernel_rfl) | refine hR109 _ _ _ ?_ | omega | (unfold maxLen; omega) | (simp [h2, h2_, h3, h4, h5, h5_, h4_]; done) | (simp [h2, h2_, h3, h4, h5, h5_, h4_]; omega))
    refine AW.wk [(5, AV.slc 0 0 1 v5.length false), (7, AV.int .i64 v6), (12, AV.lst false false (List.map (AV.int .i64) v1)), (13, AV.int .i64 (v1.length : Int)), (14, AV.int .i64 v4)] [(0, .grow (List.map (AV.int .u8) v5))] 1 (by simp [h2, h2_, h3, h4, h5, h5_, h4_]) (by simp [h2, h2_, h3, h4, h5, h5_, h4_]) (by simp) ?_
    refine AW.region mixed [] [none, none, none, none] (by kernel_rfl) fun G110 R110 hG110 hR110 => ?_
    try simp [h2, h2_, h3, h4, h5, h5_, h4_]
    repeat' apply And.intro
    try any_goals (first | omega | (unfold maxLen; omega) | (simp [h2, h2_, h3, h4, h5, h5_, h4_]; done))
    obtain ⟨v7, h6, hF⟩ := bnd1_elim hF
    refine aCall_l (w_wire_put k _ _ _ h6) (by simp) [0] [] [0] rfl (.cons (.same (by simp [h2, h2_, h3, h4, h5, h5_, h4_])) (.cons (.same (by simp [h2, h2_, h3, h4, h5, h5_, h4_])) .nil)) (by simp [h2, h2_, h3, h4, h5, h5_, h4_]) (by decide) (by simp) (by simp) (.inl rfl) (by simp) (by simp) ?_
    try simp [h2, h2_, h3, h4, h5, h5_, h4_]
    repeat' apply And.intro
    any_goals (first | exact hG110 _ (by kernel_rfl) | refine hR110 _ _ _ ?_ | omega | (unfold maxLen; omega) | (simp [h2, h2_, h3, h4, h5, h5_, h4_]; done) | (simp [h2, h2_, h3, h4, h5, h5_, h4_]; omega))
    refine hK108 _ _ _ ?_
    refine AW.wk [(5, AV.slc 1 0 1 v7.length false), (12, AV.lst false false (List.map (AV.int .i64) v1)), (13, AV.int .i64 (v1.length : Int)), (14, AV.int .i64 v4)] [(1, .grow (List.map (AV.int .u8) v7))] 2 (by simp [h2, h2_, h3, h4, h5, h5_, h4_]) (by simp [h2, h2_, h3, h4, h5, h5_, h4_]) (by simp) ?_
    refine AW.region mixed [] [none, none] (by kernel_rfl) fun G111 R111 hG111 hR111 => ?_
    try simp [h2, h2_, h3, h4, h5, h5_, h4_]
    repeat' apply And.intro
    any_goals (first | exact hG111 _ (by kernel_rfl) | refine hR111 _ _ _ ?_ | omega | (unfold maxLen; omega) | (simp [h2, h2_, h3, h4, h5, h5_, h4_]; done) | (simp [h2, h2_, h3, h4, h5, h5_, h4_]; omega))
    refine hK103 _ _ _ ?_
    refine Can.weak [(5, AV.slc 1 0 1 v7.length false), (12, AV.lst false false (List.map (AV.int .i64) v1)), (13, AV.int .i64 (v1.length : Int)), (14, AV.int .i64 (IntKind.wrap .i64 (v4 + 1)))] [(1, .grow (List.map (AV.int .u8) v7))] 2 (by simp [h2, h2_, h3, h4, h5, h5_, h4_]) (by simp [h2, h2_, h3, h4, h5, h5_, h4_]) (by simp) ?_
    refine Can.ren (m := 0) h0 [(0, 1)] [(5, AV.slc 0 0 1 v7.length false), (12, AV.lst false false (List.map (AV.int .i64) v1)), (13, AV.int .i64 (v1.length : Int)), (14, AV.int .i64 (IntKind.wrap .i64 (v4 + 1)))] [(0, .grow (List.map (AV.int .u8) v7))] 1 (by decide) (by decide) (by decide) rfl (by simp [h2, h2_, h3, h4, h5, h5_, h4_]) (by simp [h2, h2_, h3, h4, h5, h5_, h4_]) ?_
    exact Can.next (k' := n1) ((IntKind.wrap .i64 (v4 + 1), v7)) (by omega) hF (by simp [h2, h2_, h3, h4, h5, h5_, h4_]) (by simp [h2, h2_, h3, h4, h5, h5_, h4_]) (by simp)
  · replace hF := ite_f h2 hF
    have h2_ := h2
    try simp at h2_
    refine AW.condF (by decide) (by first | (simp [h2, h2_]; done) | (simp [h2, h2_]; omega)) ?_
    refine AW.exit ?_
    try simp
    refine hK85 _ _ _ ?_
    refine AW.seqR mixed [] [none, none] (by kernel_rfl) fun G112 R112 hG112 hR112 => ?_
    try simp [h2, h2_]
    repeat' apply And.intro
    any_goals (first | exact hG112 _ (by kernel_rfl) | refine hR112 _ _ _ ?_ | omega | (unfold maxLen; omega) | (simp [h2, h2_]; done) | (simp [h2, h2_]; omega))
    refine AW.wk [(4, AV.slc 0 0 1 v5.length false)] [(0, .grow (List.map (AV.int .u8) v5))] 1 (by simp [h2, h2_]) (by simp [h2, h2_]) (by simp) ?_
    simp only [Option.some.injEq] at hF
    subst hF
    refine AW.ret (hQ _ _ _ ?_ (matchO_0 ?_)).1
    · simp [Try.f31, h2, h2_]
    · simp [h2, h2_]
set_option maxHeartbeats 4000000 in
theorem w_ref02_Ints (k : Nat) (v0 : (List Int)) (v1 : (List Int)) (v2 : (List Int)) (hF : ref02_Ints k v0 v1 = some v2) :
    FCall Try.prog 32 [AV.lst false false (List.map (AV.int .u8) v0), AV.lst false false (List.map (AV.int .i64) v1)] [] (AV.lst false false (List.map (AV.int .u8) v2)) [] := by
  unfold ref02_Ints at hF
  refine FCall.enter Try.func32 rfl (by simp) (by decide) (by simp) (by simp) (by simp) (by simp) (by simp) ?_
  intro c0 w0 Q h0 hQ
  refine AW.wk [(0, AV.lst false false (List.map (AV.int .u8) v0)), (1, AV.lst false false (List.map (AV.int .i64) v1))] [] 0 (by simp) (by simp) (by simp) ?_
  refine AW.seqR mixed [] [none] (by kernel_rfl) fun G51 R51 hG51 hR51 => ?_
  try simp
  repeat' apply And.intro
  any_goals (first | exact hG51 _ (by kernel_rfl) | refine hR51 _ _ _ ?_ | omega | (unfold maxLen; omega) | (simp; done) | (simp; omega))
  refine AW.wk [(0, AV.lst false false (List.map (AV.int .u8) v0)), (1, AV.lst false false (List.map (AV.int .i64) v1))] [] 0 (by simp) (by simp) (by simp) ?_
  refine AW.seqR mixed [] [none, none, none, none, none] (by kernel_rfl) fun G52 R52 hG52 hR52 => ?_
  try simp
  repeat' apply And.intro
  try any_goals (first | omega | (unfold maxLen; omega) | (simp; done))
  obtain ⟨v3, h1, hF⟩ := bnd1_elim hF
  refine aCall_l (w_ref02_Int k _ _ _ h1) (by simp) [] [] [] rfl (.cons (.same (by simp)) (.cons (.same (by simp)) .nil)) (by simp) (by decide) (by simp) (by simp) (.inl rfl) (by simp) (by simp) ?_
  try simp
  repeat' apply And.intro
  any_goals (first | exact hG52 _ (by kernel_rfl) | refine hR52 _ _ _ ?_ | omega | (unfold maxLen; omega) | (simp; done) | (simp; omega))
  refine AW.wk [(1, AV.lst false false (List.map (AV.int .i64) v1)), (5, AV.slc 0 0 1 v3.length false)] [(0, .grow (List.map (AV.int .u8) v3))] 1 (by simp) (by simp) (by simp) ?_
  refine AW.frz 0 (o := .grow (List.map (AV.int .u8) v3)) (by simp) rfl [(5, AV.lst false false (List.map (AV.int .u8) v3))] [] ⟨(.l (by simp) (by simp) (by simp) (by simp)), trivial⟩ trivial ?_
  refine AW.wk [(1, AV.lst false false (List.map (AV.int .i64) v1)), (5, AV.lst false false (List.map (AV.int .u8) v3))] [] 1 (by simp) (by simp) (by simp) ?_
  refine AW.seq fun K76 hK76 => ?_
  refine AW.seqR mixed [] [none] (by kernel_rfl) fun G77 R77 hG77 hR77 => ?_
  try simp
  repeat' apply And.intro
  any_goals (first | exact hG77 _ (by kernel_rfl) | refine hR77 _ _ _ ?_ | omega | (unfold maxLen; omega) | (simp; done) | (simp; omega))
  refine AW.wk [(1, AV.lst false false (List.map (AV.int .i64) v1)), (5, AV.lst false false (List.map (AV.int .u8) v3)), (6, AV.int .i64 0)] [] 1 (by simp) (by simp) (by simp) ?_
  refine AW.block ?_
  refine AW.rnm (m := 0) h0 [] [(1, AV.lst false false (List.map (AV.int .i64) v1)), (5, AV.lst false false (List.map (AV.int .u8) v3)), (6, AV.int .i64 0)] [] 0 (by decide) (by decide) (by decide) rfl (by simp) (by simp) ?_
  refine AW.loopF (α := ((List Int) × Int)) (fun n (v4, v5) => ref02_Ints.L1 k v1 n v4 v5 = some v2) (fun (v4, v5) => [(1, AV.lst false false (List.map (AV.int .i64) v1)), (5, AV.lst false false (List.map (AV.int .u8) v4)), (6, AV.int .i64 v5)]) (fun (v4, v5) => []) 0 k ((v3, 0)) hF (by simp) (by simp) (by simp) ?_
  rintro (_|n1) ⟨v4, v5⟩ hF K92 hK92
  · try dsimp only at hF
    rw [ref02_Ints.L1] at hF; cases hF
  try dsimp only at hF
  rw [ref02_Ints.L1] at hF
  refine AW.seq fun K94 hK94 => ?_
  refine AW.seqR mixed [] [none, none, none, none] (by kernel_rfl) fun G95 R95 hG95 hR95 => ?_
  try simp
  repeat' apply And.intro
  any_goals (first | exact hG95 _ (by kernel_rfl) | refine hR95 _ _ _ ?_ | omega | (unfold maxLen; omega) | (simp; done) | (simp; omega))
  refine AW.wk [(1, AV.lst false false (List.map (AV.int .i64) v1)), (5, AV.lst false false (List.map (AV.int .u8) v4)), (6, AV.int .i64 v5), (14, AV.bool (decide (v5 < (v1.length : Int))))] [] 0 (by simp) (by simp) (by simp) ?_
  by_cases h2 : v5 < (v1.length : Int)
  · replace hF := ite_t h2 hF
    have h2_ := h2
    try simp at h2_
    refine AW.condT (by decide) (by first | (simp [h2, h2_]; done) | (simp [h2, h2_]; omega)) ?_
    refine AW.skip ?_
    refine hK94 _ _ _ ?_
    refine AW.seq fun K97 hK97 => ?_
    refine AW.block ?_
    refine AW.region mixed [] [none, none, none, none, none, none, none] (by kernel_rfl) fun G98 R98 hG98 hR98 => ?_
    obtain ⟨v6, h3, h4, h5, hF⟩ := idx_elim hF
    have h5_ := get_of h5
    try simp at h5_
    have h4_ := h4
    try simp at h4_
    try simp [h2, h2_, h3, h4, h5, h5_, h4_]
    repeat' apply And.intro
    try any_goals (first | omega | (unfold maxLen; omega) | (simp [h2, h2_, h3, h4, h5, h5_, h4_]; done))
    obtain ⟨v7, h6, hF⟩ := bnd1_elim hF
    refine aCall_l (w_ref02_Int k _ _ _ h6) (by simp) [] [] [] rfl (.cons (.same (by simp [h2, h2_, h3, h4, h5, h5_, h4_])) (.cons (.same (by simp [h2, h2_, h3, h4, h5, h5_, h4_])) .nil)) (by simp [h2, h2_, h3, h4, h5, h5_, h4_]) (by decide) (by simp) (by simp) (.inl rfl) (by simp) (by simp) ?_
    try simp [h2, h2_, h3, h4, h5, h5_, h4_]
    repeat' apply And.intro
    any_goals (first | exact hG98 _ (by kernel_rfl) | refine hR98 _ _ _ ?_ | omega | (unfold maxLen; omega) | (simp [h2, h2_, h3, h4, h5, h5_, h4_]; done) | (simp [h2, h2_, h3, h4, h5, h5_, h4_]; omega))
    refine hK97 _ _ _ ?_
    refine AW.wk [(1, AV.lst false false (List.map (AV.int .i64) v1)), (5, AV.slc 0 0 1 v7.length false), (6, AV.int .i64 v5)] [(0, .grow (List.map (AV.int .u8) v7))] 1 (by simp [h2, h2_, h3, h4, h5, h5_, h4_]) (by simp [h2, h2_, h3, h4, h5, h5_, h4_]) (by simp) ?_
    refine AW.frz 0 (o := .grow (List.map (AV.int .u8) v7)) (by simp [h2, h2_, h3, h4, h5, h5_, h4_]) rfl [(5, AV.lst false false (List.map (AV.int .u8) v7))] [] ⟨(.l (by simp) (by simp) (by simp) (by simp)), trivial⟩ trivial ?_
    refine AW.wk [(1, AV.lst false false (List.map (AV.int .i64) v1)), (5, AV.lst false false (List.map (AV.int .u8) v7)), (6, AV.int .i64 v5)] [] 1 (by simp [h2, h2_, h3, h4, h5, h5_, h4_]) (by simp [h2, h2_, h3, h4, h5, h5_, h4_]) (by simp) ?_
    refine AW.region mixed [] [none, none, none] (by kernel_rfl) fun G99 R99 hG99 hR99 => ?_
    try simp [h2, h2_, h3, h4, h5, h5_, h4_]
    repeat' apply And.intro
    any_goals (first | exact hG99 _ (by kernel_rfl) | refine hR99 _ _ _ ?_ | omega | (unfold maxLen; omega) | (simp [h2, h2_, h3, h4, h5, h5_, h4_]; done) | (simp [h2, h2_, h3, h4, h5, h5_, h4_]; omega))
    refine hK92 _ _ _ ?_
    refine Can.weak [(1, AV.lst false false (List.map (AV.int .i64) v1)), (5, AV.lst false false (List.map (AV.int .u8) v7)), (6, AV.int .i64 (IntKind.wrap .i64 (v5 + 1)))] [] 1 (by simp [h2, h2_, h3, h4, h5, h5_, h4_]) (by simp [h2, h2_, h3, h4, h5, h5_, h4_]) (by simp) ?_
    refine Can.ren (m := 0) h0 [] [(1, AV.lst false false (List.map (AV.int .i64) v1)), (5, AV.lst false false (List.map (AV.int .u8) v7)), (6, AV.int .i64 (IntKind.wrap .i64 (v5 + 1)))] [] 0 (by decide) (by decide) (by decide) rfl (by simp [h2, h2_, h3, h4, h5, h5_, h4_]) (by simp [h2, h2_, h3, h4, h5, h5_, h4_]) ?_
    exact Can.next (k' := n1) ((v7, IntKind.wrap .i64 (v5 + 1))) (by omega) hF (by simp [h2, h2_, h3, h4, h5, h5_, h4_]) (by simp [h2, h2_, h3, h4, h5, h5_, h4_]) (by simp)
  · replace hF := ite_f h2 hF
    have h2_ := h2
    try simp at h2_
    refine AW.condF (by decide) (by first | (simp [h2, h2_]; done) | (simp [h2, h2_]; omega)) ?_
    refine AW.exit ?_
    try simp
    refine hK76 _ _ _ ?_
    refine AW.seqR mixed [] [none, none] (by kernel_rfl) fun G100 R100 hG100 hR100 => ?_
    try simp [h2, h2_]
    repeat' apply And.intro
    any_goals (first | exact hG100 _ (by kernel_rfl) | refine hR100 _ _ _ ?_ | omega | (unfold maxLen; omega) | (simp [h2, h2_]; done) | (simp [h2, h2_]; omega))
    refine AW.wk [(4, AV.lst false false (List.map (AV.int .u8) v4))] [] 0 (by simp [h2, h2_]) (by simp [h2, h2_]) (by simp) ?_
    simp only [Option.some.injEq] at hF
    subst hF
    refine AW.ret (hQ _ _ _ ?_ (matchO_0 ?_)).1
    · simp [Try.f32, h2, h2_]
    · simp [h2, h2_]
set_option maxHeartbeats 4000000 in
theorem w_law02_WireWrites (k : Nat) (v0 : (List Int)) (v1 : ByteArray) (v2 : (List Int)) (v3 : Bool) (hF : law02_WireWrites k v0 v1 v2 = some v3) :
    FCall Try.prog 4 [AV.lst false false (List.map (AV.int .u8) v0), AV.str v1, AV.lst false false (List.map (AV.int .i64) v2)] [] (AV.bool v3) [] := by
  unfold law02_WireWrites at hF
  refine FCall.enter Try.func4 rfl (by simp) (by decide) (by simp) (by simp) (by simp) (by simp) (by simp) ?_
  intro c0 w0 Q h0 hQ
  refine AW.wk [(0, AV.lst false false (List.map (AV.int .u8) v0)), (1, AV.str v1), (2, AV.lst false false (List.map (AV.int .i64) v2))] [] 0 (by simp) (by simp) (by simp) ?_
  refine AW.seqR mixed [] [none] (by kernel_rfl) fun G18 R18 hG18 hR18 => ?_
  try simp
  repeat' apply And.intro
  any_goals (first | exact hG18 _ (by kernel_rfl) | refine hR18 _ _ _ ?_ | omega | (unfold maxLen; omega) | (simp; done) | (simp; omega))
  refine AW.wk [(0, AV.lst false false (List.map (AV.int .u8) v0)), (1, AV.str v1), (2, AV.lst false false (List.map (AV.int .i64) v2))] [] 0 (by simp) (by simp) (by simp) ?_
  refine AW.seq fun K23 hK23 => ?_
  refine AW.seqR mixed [] [none, none, none, none, some (11, false), some (11, false), some (11, false), none, none, some (16, false), some (16, false), some (16, false), none] (by kernel_rfl) fun G24 R24 hG24 hR24 => ?_
  by_cases h1 : 100 < (v0.length : Int)
  · replace hF := ite_t h1 hF
    have h1_ := h1
    try simp at h1_
    try simp [h1, h1_]
    repeat' apply And.intro
    any_goals (first | exact hG24 _ (by kernel_rfl) | refine hR24 _ _ _ ?_ | omega | (unfold maxLen; omega) | (simp [h1, h1_]; done) | (simp [h1, h1_]; omega))
    refine AW.wk [(0, AV.lst false false (List.map (AV.int .u8) v0)), (1, AV.str v1), (2, AV.lst false false (List.map (AV.int .i64) v2)), (20, AV.bool true)] [] 0 (by simp [h1, h1_]) (by simp [h1, h1_]) (by simp) ?_
    refine AW.condT (by decide) (by simp [h1, h1_]) ?_
    refine AW.seqR mixed [] [none, none] (by kernel_rfl) fun G25 R25 hG25 hR25 => ?_
    try simp [h1, h1_]
    repeat' apply And.intro
    try any_goals (first | omega | (unfold maxLen; omega) | (simp [h1, h1_]; done))
    obtain ⟨v4, h2, hF⟩ := bnd1_elim hF
    refine aCall_l (w_law02_awake k _ h2) (by simp) [] [] [] rfl .nil (by simp [h1, h1_]) (by decide) (by simp) (by simp) (.inl rfl) (by simp) (by simp) ?_
    try simp [h1, h1_]
    repeat' apply And.intro
    any_goals (first | exact hG25 _ (by kernel_rfl) | refine hR25 _ _ _ ?_ | omega | (unfold maxLen; omega) | (simp [h1, h1_]; done) | (simp [h1, h1_]; omega))
    refine AW.wk [(6, AV.bool v4)] [] 0 (by simp [h1, h1_]) (by simp [h1, h1_]) (by simp) ?_
    simp only [Option.some.injEq] at hF
    subst hF
    refine AW.ret (hQ _ _ _ ?_ (matchO_0 ?_)).1
    · simp [Try.f4, h1, h1_]
    · simp [h1, h1_]
  · replace hF := ite_f h1 hF
    have h1_ := h1
    try simp at h1_
    by_cases h3 : 100 < (v1.size : Int)
    · replace hF := ite_t h3 hF
      have h3_ := h3
      try simp at h3_
      try simp [h1, h1_, h3, h3_]
      repeat' apply And.intro
      any_goals (first | exact hG24 _ (by kernel_rfl) | refine hR24 _ _ _ ?_ | omega | (unfold maxLen; omega) | (simp [h1, h1_, h3, h3_]; done) | (simp [h1, h1_, h3, h3_]; omega))
      refine AW.wk [(0, AV.lst false false (List.map (AV.int .u8) v0)), (1, AV.str v1), (2, AV.lst false false (List.map (AV.int .i64) v2)), (20, AV.bool true)] [] 0 (by simp [h1, h1_, h3, h3_]) (by simp [h1, h1_, h3, h3_]) (by simp) ?_
      refine AW.condT (by decide) (by simp [h1, h1_, h3, h3_]) ?_
      refine AW.seqR mixed [] [none, none] (by kernel_rfl) fun G26 R26 hG26 hR26 => ?_
      try simp [h1, h1_, h3, h3_]
      repeat' apply And.intro
      try any_goals (first | omega | (unfold maxLen; omega) | (simp [h1, h1_, h3, h3_]; done))
      obtain ⟨v5, h4, hF⟩ := bnd1_elim hF
      refine aCall_l (w_law02_awake k _ h4) (by simp) [] [] [] rfl .nil (by simp [h1, h1_, h3, h3_]) (by decide) (by simp) (by simp) (.inl rfl) (by simp) (by simp) ?_
      try simp [h1, h1_, h3, h3_]
      repeat' apply And.intro
      any_goals (first | exact hG26 _ (by kernel_rfl) | refine hR26 _ _ _ ?_ | omega | (unfold maxLen; omega) | (simp [h1, h1_, h3, h3_]; done) | (simp [h1, h1_, h3, h3_]; omega))
      refine AW.wk [(6, AV.bool v5)] [] 0 (by simp [h1, h1_, h3, h3_]) (by simp [h1, h1_, h3, h3_]) (by simp) ?_
      simp only [Option.some.injEq] at hF
      subst hF
      refine AW.ret (hQ _ _ _ ?_ (matchO_0 ?_)).1
      · simp [Try.f4, h1, h1_, h3, h3_]
      · simp [h1, h1_, h3, h3_]
    · replace hF := ite_f h3 hF
      have h3_ := h3
      try simp at h3_
      try simp [h1, h1_, h3, h3_]
      repeat' apply And.intro
      any_goals (first | exact hG24 _ (by kernel_rfl) | refine hR24 _ _ _ ?_ | omega | (unfold maxLen; omega) | (simp [h1, h1_, h3, h3_]; done) | (simp [h1, h1_, h3, h3_]; omega))
      refine AW.wk [(0, AV.lst false false (List.map (AV.int .u8) v0)), (1, AV.str v1), (2, AV.lst false false (List.map (AV.int .i64) v2)), (20, AV.bool (decide (60 < (v2.length : Int))))] [] 0 (by simp [h1, h1_, h3, h3_]) (by simp [h1, h1_, h3, h3_]) (by simp) ?_
      by_cases h5 : 60 < (v2.length : Int)
      · replace hF := ite_t h5 hF
        have h5_ := h5
        try simp at h5_
        refine AW.condT (by decide) (by first | (simp [h1, h1_, h3, h3_, h5, h5_]; done) | (simp [h1, h1_, h3, h3_, h5, h5_]; omega)) ?_
        refine AW.seqR mixed [] [none, none] (by kernel_rfl) fun G27 R27 hG27 hR27 => ?_
        try simp [h1, h1_, h3, h3_, h5, h5_]
        repeat' apply And.intro
        try any_goals (first | omega | (unfold maxLen; omega) | (simp [h1, h1_, h3, h3_, h5, h5_]; done))
        obtain ⟨v6, h6, hF⟩ := bnd1_elim hF
        refine aCall_l (w_law02_awake k _ h6) (by simp) [] [] [] rfl .nil (by simp [h1, h1_, h3, h3_, h5, h5_]) (by decide) (by simp) (by simp) (.inl rfl) (by simp) (by simp) ?_
        try simp [h1, h1_, h3, h3_, h5, h5_]
        repeat' apply And.intro
        any_goals (first | exact hG27 _ (by kernel_rfl) | refine hR27 _ _ _ ?_ | omega | (unfold maxLen; omega) | (simp [h1, h1_, h3, h3_, h5, h5_]; done) | (simp [h1, h1_, h3, h3_, h5, h5_]; omega))
        refine AW.wk [(6, AV.bool v6)] [] 0 (by simp [h1, h1_, h3, h3_, h5, h5_]) (by simp [h1, h1_, h3, h3_, h5, h5_]) (by simp) ?_
        simp only [Option.some.injEq] at hF
        subst hF
        refine AW.ret (hQ _ _ _ ?_ (matchO_0 ?_)).1
        · simp [Try.f4, h1, h1_, h3, h3_, h5, h5_]
        · simp [h1, h1_, h3, h3_, h5, h5_]
      · replace hF := ite_f h5 hF
        have h5_ := h5
        try simp at h5_
        refine AW.condF (by decide) (by first | (simp [h1, h1_, h3, h3_, h5, h5_]; done) | (simp [h1, h1_, h3, h3_, h5, h5_]; omega)) ?_
        refine AW.skip ?_
        refine hK23 _ _ _ ?_
        refine AW.seqR mixed [] [none, none, none] (by kernel_rfl) fun G28 R28 hG28 hR28 => ?_
        try simp [h1, h1_, h3, h3_, h5, h5_]
        repeat' apply And.intro
        any_goals (first | exact hG28 _ (by kernel_rfl) | refine hR28 _ _ _ ?_ | omega | (unfold maxLen; omega) | (simp [h1, h1_, h3, h3_, h5, h5_]; done) | (simp [h1, h1_, h3, h3_, h5, h5_]; omega))
        refine AW.wk [(0, AV.lst false false (List.map (AV.int .u8) v0)), (1, AV.str v1), (2, AV.lst false false (List.map (AV.int .i64) v2)), (7, AV.int .i64 (v0.length : Int))] [] 0 (by simp [h1, h1_, h3, h3_, h5, h5_]) (by simp [h1, h1_, h3, h3_, h5, h5_]) (by simp) ?_
        refine AW.midF (α := Int) (fun v7 => law02_WireWrites.J1 k v0 v1 v2 v7 = some v3) (fun v7 => [(0, AV.lst false false (List.map (AV.int .u8) v0)), (1, AV.str v1), (2, AV.lst false false (List.map (AV.int .i64) v2)), (7, AV.int .i64 v7)]) (fun v7 => []) 0 (fun K32 hK32 => ?_) ?_
        · refine AW.seqR mixed [] [none, none, none] (by kernel_rfl) fun G33 R33 hG33 hR33 => ?_
          try simp [h1, h1_, h3, h3_, h5, h5_]
          repeat' apply And.intro
          any_goals (first | exact hG33 _ (by kernel_rfl) | refine hR33 _ _ _ ?_ | omega | (unfold maxLen; omega) | (simp [h1, h1_, h3, h3_, h5, h5_]; done) | (simp [h1, h1_, h3, h3_, h5, h5_]; omega))
          refine AW.wk [(0, AV.lst false false (List.map (AV.int .u8) v0)), (1, AV.str v1), (2, AV.lst false false (List.map (AV.int .i64) v2)), (7, AV.int .i64 (v0.length : Int)), (26, AV.bool (decide (0 < (v2.length : Int))))] [] 0 (by simp [h1, h1_, h3, h3_, h5, h5_]) (by simp [h1, h1_, h3, h3_, h5, h5_]) (by simp) ?_
          by_cases h17 : 0 < (v2.length : Int)
          · replace hF := ite_t h17 hF
            have h17_ := h17
            try simp at h17_
            refine AW.condT (by decide) (by first | (simp [h1, h1_, h3, h3_, h5, h5_, h17, h17_]; done) | (simp [h1, h1_, h3, h3_, h5, h5_, h17, h17_]; omega)) ?_
            refine AW.region mixed [] [none, none, none, none] (by kernel_rfl) fun G34 R34 hG34 hR34 => ?_
            obtain ⟨v15, h18, h19, h20, hF⟩ := idx_elim hF
            have h20_ := get_of h20
            try simp at h20_
            have h19_ := h19
            try simp at h19_
            try simp [h1, h1_, h3, h3_, h5, h5_, h17, h17_, h18, h19, h20, h20_, h19_]
            repeat' apply And.intro
            any_goals (first | exact hG34 _ (by kernel_rfl) | refine hR34 _ _ _ ?_ | omega | (unfold maxLen; omega) | (simp [h1, h1_, h3, h3_, h5, h5_, h17, h17_, h18, h19, h20, h20_, h19_]; done) | (simp [h1, h1_, h3, h3_, h5, h5_, h17, h17_, h18, h19, h20, h20_, h19_]; omega))
            refine hK32 _ _ _ ?_
            refine Can.weak [(0, AV.lst false false (List.map (AV.int .u8) v0)), (1, AV.str v1), (2, AV.lst false false (List.map (AV.int .i64) v2)), (7, AV.int .i64 v15)] [] 0 (by simp [h1, h1_, h3, h3_, h5, h5_, h17, h17_, h18, h19, h20, h20_, h19_]) (by simp [h1, h1_, h3, h3_, h5, h5_, h17, h17_, h18, h19, h20, h20_, h19_]) (by simp) ?_
            exact Can.join (v15) hF (by simp [h1, h1_, h3, h3_, h5, h5_, h17, h17_, h18, h19, h20, h20_, h19_]) (by simp [h1, h1_, h3, h3_, h5, h5_, h17, h17_, h18, h19, h20, h20_, h19_]) (by simp)
          · replace hF := ite_f h17 hF
            have h17_ := h17
            try simp at h17_
            refine AW.condF (by decide) (by first | (simp [h1, h1_, h3, h3_, h5, h5_, h17, h17_]; done) | (simp [h1, h1_, h3, h3_, h5, h5_, h17, h17_]; omega)) ?_
            refine AW.skip ?_
            refine hK32 _ _ _ ?_
            exact Can.join ((v0.length : Int)) hF (by simp [h1, h1_, h3, h3_, h5, h5_, h17, h17_]) (by simp [h1, h1_, h3, h3_, h5, h5_, h17, h17_]) (by simp)
        · rintro v7 hF
          try dsimp only at hF
          unfold law02_WireWrites.J1 at hF
          refine AW.seqR mixed [] [none, none, some (31, true), some (31, true), some (31, true), some (31, true), some (31, true), some (31, true), some (31, true), some (31, true), some (31, true), none, none, some (42, true), some (42, true), some (42, true), some (42, true), some (42, true), some (42, true), some (42, true), some (42, true), some (42, true), none, none, some (53, true), some (53, true), some (53, true), some (53, true), some (53, true), some (53, true), some (53, true), some (53, true), some (53, true), none, none] (by kernel_rfl) fun G31 R31 hG31 hR31 => ?_
          try simp [h1, h1_, h3, h3_, h5, h5_]
          repeat' apply And.intro
          try any_goals (first | omega | (unfold maxLen; omega) | (simp [h1, h1_, h3, h3_, h5, h5_]; done))
          obtain ⟨v8, h7, hF⟩ := bnd1_elim hF
          refine aCall_l (w_law02_awake k _ h7) (by simp) [] [] [] rfl .nil (by simp [h1, h1_, h3, h3_, h5, h5_]) (by decide) (by simp) (by simp) (.inl rfl) (by simp) (by simp) ?_
          by_cases h8 : v8 = true
          · replace hF := ite_t h8 hF
            have h8_ := h8
            try simp at h8_
            try simp [h1, h1_, h3, h3_, h5, h5_, h8, h8_]
            repeat' apply And.intro
            try any_goals (first | omega | (unfold maxLen; omega) | (simp [h1, h1_, h3, h3_, h5, h5_, h8, h8_]; done))
            obtain ⟨v9, h9, hF⟩ := bnd1_elim hF
            refine aCall_l (w_wire_Int k _ _ _ h9) (by simp) [] [] [] rfl (.cons (.same (by simp [h1, h1_, h3, h3_, h5, h5_, h8, h8_])) (.cons (.same (by simp [h1, h1_, h3, h3_, h5, h5_, h8, h8_])) .nil)) (by simp [h1, h1_, h3, h3_, h5, h5_, h8, h8_]) (by decide) (by simp) (by simp) (.inl rfl) (by simp) (by simp) ?_
            try simp [h1, h1_, h3, h3_, h5, h5_, h8, h8_]
            repeat' apply And.intro
            try any_goals (first | omega | (unfold maxLen; omega) | (simp [h1, h1_, h3, h3_, h5, h5_, h8, h8_]; done))
            obtain ⟨v10, h10, hF⟩ := bnd1_elim hF
            refine aCall_l (w_ref02_Int k _ _ _ h10) (by simp) [] [] [] rfl (.cons (.same (by simp [h1, h1_, h3, h3_, h5, h5_, h8, h8_])) (.cons (.same (by simp [h1, h1_, h3, h3_, h5, h5_, h8, h8_])) .nil)) (by simp [h1, h1_, h3, h3_, h5, h5_, h8, h8_]) (by decide) (by simp) (by simp) (.inl rfl) (by simp) (by simp) ?_
            by_cases h11 : (strEq (ofI v9) (ofI v10)) = true
            · replace hF := ite_t h11 hF
              have h11_ := h11
              try simp at h11_
              try simp [h1, h1_, h3, h3_, h5, h5_, h8, h8_, h11, h11_]
              repeat' apply And.intro
              try any_goals (first | omega | (unfold maxLen; omega) | (simp [h1, h1_, h3, h3_, h5, h5_, h8, h8_, h11, h11_]; done))
              obtain ⟨v11, h12, hF⟩ := bnd1_elim hF
              refine aCall_l (w_wire_Text k _ _ _ h12) (by simp) [] [] [] rfl (.cons (.same (by simp [h1, h1_, h3, h3_, h5, h5_, h8, h8_, h11, h11_])) (.cons (.same (by simp [h1, h1_, h3, h3_, h5, h5_, h8, h8_, h11, h11_])) .nil)) (by simp [h1, h1_, h3, h3_, h5, h5_, h8, h8_, h11, h11_]) (by decide) (by simp) (by simp) (.inl rfl) (by simp) (by simp) ?_
              try simp [h1, h1_, h3, h3_, h5, h5_, h8, h8_, h11, h11_]
              repeat' apply And.intro
              try any_goals (first | omega | (unfold maxLen; omega) | (simp [h1, h1_, h3, h3_, h5, h5_, h8, h8_, h11, h11_]; done))
              obtain ⟨v12, h13, hF⟩ := bnd1_elim hF
              refine aCall_l (w_ref02_Text k _ _ _ h13) (by simp) [] [] [] rfl (.cons (.same (by simp [h1, h1_, h3, h3_, h5, h5_, h8, h8_, h11, h11_])) (.cons (.same (by simp [h1, h1_, h3, h3_, h5, h5_, h8, h8_, h11, h11_])) .nil)) (by simp [h1, h1_, h3, h3_, h5, h5_, h8, h8_, h11, h11_]) (by decide) (by simp) (by simp) (.inl rfl) (by simp) (by simp) ?_
              by_cases h14 : (strEq (ofI v11) (ofI v12)) = true
              · replace hF := ite_t h14 hF
                have h14_ := h14
                try simp at h14_
                try simp [h1, h1_, h3, h3_, h5, h5_, h8, h8_, h11, h11_, h14, h14_]
                repeat' apply And.intro
                try any_goals (first | omega | (unfold maxLen; omega) | (simp [h1, h1_, h3, h3_, h5, h5_, h8, h8_, h11, h11_, h14, h14_]; done))
                obtain ⟨v13, h15, hF⟩ := bnd1_elim hF
                refine aCall_l (w_wire_Ints k _ _ _ h15) (by simp) [] [] [] rfl (.cons (.same (by simp [h1, h1_, h3, h3_, h5, h5_, h8, h8_, h11, h11_, h14, h14_])) (.cons (.same (by simp [h1, h1_, h3, h3_, h5, h5_, h8, h8_, h11, h11_, h14, h14_])) .nil)) (by simp [h1, h1_, h3, h3_, h5, h5_, h8, h8_, h11, h11_, h14, h14_]) (by decide) (by simp) (by simp) (.inl rfl) (by simp) (by simp) ?_
                try simp [h1, h1_, h3, h3_, h5, h5_, h8, h8_, h11, h11_, h14, h14_]
                repeat' apply And.intro
                try any_goals (first | omega | (unfold maxLen; omega) | (simp [h1, h1_, h3, h3_, h5, h5_, h8, h8_, h11, h11_, h14, h14_]; done))
                obtain ⟨v14, h16, hF⟩ := bnd1_elim hF
                refine aCall_l (w_ref02_Ints k _ _ _ h16) (by simp) [] [] [] rfl (.cons (.same (by simp [h1, h1_, h3, h3_, h5, h5_, h8, h8_, h11, h11_, h14, h14_])) (.cons (.same (by simp [h1, h1_, h3, h3_, h5, h5_, h8, h8_, h11, h11_, h14, h14_])) .nil)) (by simp [h1, h1_, h3, h3_, h5, h5_, h8, h8_, h11, h11_, h14, h14_]) (by decide) (by simp) (by simp) (.inl rfl) (by simp) (by simp) ?_
                try simp [h1, h1_, h3, h3_, h5, h5_, h8, h8_, h11, h11_, h14, h14_]
                repeat' apply And.intro
                any_goals (first | exact hG31 _ (by kernel_rfl) | refine hR31 _ _ _ ?_ | omega | (unfold maxLen; omega) | (simp [h1, h1_, h3, h3_, h5, h5_, h8, h8_, h11, h11_, h14, h14_]; done) | (simp [h1, h1_, h3, h3_, h5, h5_, h8, h8_, h11, h11_, h14, h14_]; omega))
                refine AW.wk [(6, AV.bool (strEq (ofI v13) (ofI v14)))] [] 5 (by simp [h1, h1_, h3, h3_, h5, h5_, h8, h8_, h11, h11_, h14, h14_]) (by simp [h1, h1_, h3, h3_, h5, h5_, h8, h8_, h11, h11_, h14, h14_]) (by simp) ?_
                simp only [Option.some.injEq] at hF
                subst hF
                refine AW.ret (hQ _ _ _ ?_ (matchO_0 ?_)).1
                · simp [Try.f4, h1, h1_, h3, h3_, h5, h5_, h8, h8_, h11, h11_, h14, h14_]
                · simp [h1, h1_, h3, h3_, h5, h5_, h8, h8_, h11, h11_, h14, h14_]
              · replace hF := ite_f h14 hF
                have h14_ := h14
                try simp at h14_
                try simp [h1, h1_, h3, h3_, h5, h5_, h8, h8_, h11, h11_, h14, h14_]
                repeat' apply And.intro
                any_goals (first | exact hG31 _ (by kernel_rfl) | refine hR31 _ _ _ ?_ | omega | (unfold maxLen; omega) | (simp [h1, h1_, h3, h3_, h5, h5_, h8, h8_, h11, h11_, h14, h14_]; done) | (simp [h1, h1_, h3, h3_, h5, h5_, h8, h8_, h11, h11_, h14, h14_]; omega))
                refine AW.wk [(6, AV.bool false)] [] 4 (by simp [h1, h1_, h3, h3_, h5, h5_, h8, h8_, h11, h11_, h14, h14_]) (by simp [h1, h1_, h3, h3_, h5, h5_, h8, h8_, h11, h11_, h14, h14_]) (by simp) ?_
                simp only [Option.some.injEq] at hF
                subst hF
                refine AW.ret (hQ _ _ _ ?_ (matchO_0 ?_)).1
                · simp [Try.f4, h1, h1_, h3, h3_, h5, h5_, h8, h8_, h11, h11_, h14, h14_]
                · simp [h1, h1_, h3, h3_, h5, h5_, h8, h8_, h11, h11_, h14, h14_]
            · replace hF := ite_f h11 hF
              have h11_ := h11
              try simp at h11_
              try simp [h1, h1_, h3, h3_, h5, h5_, h8, h8_, h11, h11_]
              repeat' apply And.intro
              any_goals (first | exact hG31 _ (by kernel_rfl) | refine hR31 _ _ _ ?_ | omega | (unfold maxLen; omega) | (simp [h1, h1_, h3, h3_, h5, h5_, h8, h8_, h11, h11_]; done) | (simp [h1, h1_, h3, h3_, h5, h5_, h8, h8_, h11, h11_]; omega))
              refine AW.wk [(6, AV.bool false)] [] 2 (by simp [h1, h1_, h3, h3_, h5, h5_, h8, h8_, h11, h11_]) (by simp [h1, h1_, h3, h3_, h5, h5_, h8, h8_, h11, h11_]) (by simp) ?_
              simp only [Option.some.injEq] at hF
              subst hF
              refine AW.ret (hQ _ _ _ ?_ (matchO_0 ?_)).1
              · simp [Try.f4, h1, h1_, h3, h3_, h5, h5_, h8, h8_, h11, h11_]
              · simp [h1, h1_, h3, h3_, h5, h5_, h8, h8_, h11, h11_]
          · replace hF := ite_f h8 hF
            have h8_ := h8
            try simp at h8_
            try simp [h1, h1_, h3, h3_, h5, h5_, h8, h8_]
            repeat' apply And.intro
            any_goals (first | exact hG31 _ (by kernel_rfl) | refine hR31 _ _ _ ?_ | omega | (unfold maxLen; omega) | (simp [h1, h1_, h3, h3_, h5, h5_, h8, h8_]; done) | (simp [h1, h1_, h3, h3_, h5, h5_, h8, h8_]; omega))
            refine AW.wk [(6, AV.bool false)] [] 0 (by simp [h1, h1_, h3, h3_, h5, h5_, h8, h8_]) (by simp [h1, h1_, h3, h3_, h5, h5_, h8, h8_]) (by simp) ?_
            simp only [Option.some.injEq] at hF
            subst hF
            refine AW.ret (hQ _ _ _ ?_ (matchO_0 ?_)).1
            · simp [Try.f4, h1, h1_, h3, h3_, h5, h5_, h8, h8_]
            · simp [h1, h1_, h3, h3_, h5, h5_, h8, h8_]
set_option maxHeartbeats 4000000 in
theorem w_made_Light (k : Nat) (v0 : (List Int)) (v1 : Bool) (hF : made_Light k v0 = some v1) :
    FCall Try.prog 33 [AV.lst false false (List.map (AV.int .i64) v0)] [] (AV.bool v1) [] := by
  unfold made_Light at hF
  refine FCall.enter Try.func33 rfl (by simp) (by decide) (by simp) (by simp) (by simp) (by simp) (by simp) ?_
  intro c0 w0 Q h0 hQ
  refine AW.wk [(0, AV.lst false false (List.map (AV.int .i64) v0))] [] 0 (by simp) (by simp) (by simp) ?_
  refine AW.seqR mixed [] [none] (by kernel_rfl) fun G3 R3 hG3 hR3 => ?_
  try simp
  repeat' apply And.intro
  any_goals (first | exact hG3 _ (by kernel_rfl) | refine hR3 _ _ _ ?_ | omega | (unfold maxLen; omega) | (simp; done) | (simp; omega))
  refine AW.wk [(0, AV.lst false false (List.map (AV.int .i64) v0))] [] 0 (by simp) (by simp) (by simp) ?_
  refine AW.seqR mixed [] [none, none, none, none] (by kernel_rfl) fun G4 R4 hG4 hR4 => ?_
  try simp
  repeat' apply And.intro
  any_goals (first | exact hG4 _ (by kernel_rfl) | refine hR4 _ _ _ ?_ | omega | (unfold maxLen; omega) | (simp; done) | (simp; omega))
  refine AW.wk [(2, AV.bool (decide ((v0.length : Int) ≤ 400)))] [] 0 (by simp) (by simp) (by simp) ?_
  simp only [Option.some.injEq] at hF
  subst hF
  refine AW.ret (hQ _ _ _ ?_ (matchO_0 ?_)).1
  · simp [Try.f33]
  · simp
set_option maxHeartbeats 4000000 in
theorem w_made_Dice_Of (k : Nat) (v0 : (List Int)) (v1 : Int) (v2 : (List Int)) (v3 : Int) (v4 : Int) (hF : made_Dice_Of k v0 v1 v2 = some (v3, v4)) :
    FCall Try.prog 76 [AV.ptr 0 0, AV.lst false false (List.map (AV.int .i64) v2)] [.cells [AV.lst false false (List.map (AV.int .i64) v0), AV.int .i64 v1]] (AV.int .i64 v3) [some (.cells [AV.lst false false (List.map (AV.int .i64) v0), AV.int .i64 v4])] := by
  unfold made_Dice_Of at hF
  refine FCall.enter Try.func76 rfl (by simp) (by decide) (by simp) (by simp) (by simp) (by simp) (by simp) ?_
  intro c0 w0 Q h0 hQ
  refine AW.wk [(0, AV.ptr 0 0), (1, AV.lst false false (List.map (AV.int .i64) v2))] [(0, .cells [AV.lst false false (List.map (AV.int .i64) v0), AV.int .i64 v1])] 1 (by simp) (by simp) (by simp) ?_
  refine AW.seqR mixed [] [none] (by kernel_rfl) fun G3 R3 hG3 hR3 => ?_
  try simp
  repeat' apply And.intro
  any_goals (first | exact hG3 _ (by kernel_rfl) | refine hR3 _ _ _ ?_ | omega | (unfold maxLen; omega) | (simp; done) | (simp; omega))
  refine AW.wk [(0, AV.ptr 0 0), (1, AV.lst false false (List.map (AV.int .i64) v2))] [(0, .cells [AV.lst false false (List.map (AV.int .i64) v0), AV.int .i64 v1])] 1 (by simp) (by simp) (by simp) ?_
  refine AW.seqR mixed [] [none, none, none, none, none, none, none, none] (by kernel_rfl) fun G4 R4 hG4 hR4 => ?_
  try simp
  repeat' apply And.intro
  try any_goals (first | omega | (unfold maxLen; omega) | (simp; done))
  obtain ⟨v5, v6, h1, hF⟩ := bnd2_elim hF
  refine aCall_l (w_made_Dice_Next k _ _ _ _ _ h1) (by simp) [0] [] [0] rfl (.cons (.same (by simp)) (.cons (.same (by simp)) .nil)) (by simp) (by decide) (by simp) (by simp) (.inl rfl) (by simp) (by simp) ?_
  obtain ⟨v7, h2, h3, h4, hF⟩ := idx_elim hF
  have h4_ := get_of h4
  try simp at h4_
  have h3_ := h3
  try simp at h3_
  try simp [h2, h3, h4, h4_, h3_]
  repeat' apply And.intro
  any_goals (first | exact hG4 _ (by kernel_rfl) | refine hR4 _ _ _ ?_ | omega | (unfold maxLen; omega) | (simp [h2, h3, h4, h4_, h3_]; done) | (simp [h2, h3, h4, h4_, h3_]; omega))
  refine AW.wk [(4, AV.int .i64 v7)] [(0, .cells [AV.lst false false (List.map (AV.int .i64) v0), AV.int .i64 v6])] 1 (by simp [h2, h3, h4, h4_, h3_]) (by simp [h2, h3, h4, h4_, h3_]) (by simp) ?_
  simp only [Option.some.injEq, Prod.mk.injEq] at hF
  obtain ⟨e0, e1⟩ := hF
  subst e0 e1
  refine AW.ret (hQ _ _ _ ?_ (matchO_0 ?_)).1
  · simp [Try.f76, h2, h3, h4, h4_, h3_]
  · simp [h2, h3, h4, h4_, h3_]
end Go.TF
