/- Walks: the Go text computes the Lean functions (printed by a program of our own). -/
import Derived.Test.YtepdfenlkeaefaaEPu
import Derived.Test.YtepdfenlkeaefaaEAbsT
import Derived.Test.YtepdfenlkeaefaaEWa0
import Derived.Test.YtepdfenlkeaefaaEWa4
set_option linter.unusedVariables false
set_option linter.unusedSimpArgs false
set_option maxRecDepth 100000
namespace Go.TF
open Go Go.Abs Go.Proofs Go.Proofs.YtepdfenlkeaefaaET
set_option maxHeartbeats 4000000 in
theorem w_ref25_list (k : Nat) (v0 : (List Int)) (v1 : (List Int)) (v2 : (List Int)) (hF : ref25_list k v0 v1 = some v2) :
    FCall Try.prog 83 [AV.slc 0 0 1 v0.length false, AV.lst false false (List.map (AV.int .i64) v1)] [.grow (List.map (AV.int .u8) v0)] (AV.slc 1 0 1 v2.length false) [none, some (.grow (List.map (AV.int .u8) v2))] := by
  unfold ref25_list at hF
  refine FCall.enter Try.func83 rfl (by simp) (by decide) (by simp) (by simp) (by simp) (by simp) (by simp) ?_
  intro c0 w0 Q h0 hQ
  refine AW.wk [(0, AV.slc 0 0 1 v0.length false), (1, AV.lst false false (List.map (AV.int .i64) v1))] [(0, .grow (List.map (AV.int .u8) v0))] 1 (by simp) (by simp) (by simp) ?_
  refine AW.seqR mixed [] [none] (by kernel_rfl) fun G65 R65 hG65 hR65 => ?_
  try simp
  repeat' apply And.intro
  any_goals (first | exact hG65 _ (by kernel_rfl) | refine hR65 _ _ _ ?_ | omega | (unfold maxLen; omega) | (simp; done) | (simp; omega))
  refine AW.wk [(0, AV.slc 0 0 1 v0.length false), (1, AV.lst false false (List.map (AV.int .i64) v1))] [(0, .grow (List.map (AV.int .u8) v0))] 1 (by simp) (by simp) (by simp) ?_
  refine AW.seqR mixed [] [none, none, none, none, none] (by kernel_rfl) fun G66 R66 hG66 hR66 => ?_
  try simp
  repeat' apply And.intro
  try any_goals (first | omega | (unfold maxLen; omega) | (simp; done))
  obtain ⟨v3, h1, hF⟩ := bnd1_elim hF
  refine aCall_l (w_ref25_number k _ _ _ h1) (by simp) [0] [] [0] rfl (.cons (.same (by simp)) (.cons (.same (by simp)) .nil)) (by simp) (by decide) (by simp) (by simp) (.inl rfl) (by simp) (by simp) ?_
  try simp
  repeat' apply And.intro
  any_goals (first | exact hG66 _ (by kernel_rfl) | refine hR66 _ _ _ ?_ | omega | (unfold maxLen; omega) | (simp; done) | (simp; omega))
  refine AW.wk [(0, AV.slc 1 0 1 v3.length false), (1, AV.lst false false (List.map (AV.int .i64) v1))] [(1, .grow (List.map (AV.int .u8) v3))] 2 (by simp) (by simp) (by simp) ?_
  refine AW.seq fun K97 hK97 => ?_
  refine AW.seqR mixed [] [none] (by kernel_rfl) fun G98 R98 hG98 hR98 => ?_
  try simp
  repeat' apply And.intro
  any_goals (first | exact hG98 _ (by kernel_rfl) | refine hR98 _ _ _ ?_ | omega | (unfold maxLen; omega) | (simp; done) | (simp; omega))
  refine AW.wk [(0, AV.slc 1 0 1 v3.length false), (1, AV.lst false false (List.map (AV.int .i64) v1)), (5, AV.int .i64 0)] [(1, .grow (List.map (AV.int .u8) v3))] 2 (by simp) (by simp) (by simp) ?_
  refine AW.block ?_
  refine AW.loopF (α := (Int × (List Int))) (fun n (v4, v5) => ref25_list.L1 k v1 n v4 v5 = some v2) (fun (v4, v5) => [(0, AV.slc 1 0 1 v5.length false), (1, AV.lst false false (List.map (AV.int .i64) v1)), (5, AV.int .i64 v4)]) (fun (v4, v5) => [(1, .grow (List.map (AV.int .u8) v5))]) 2 k ((0, v3)) hF (by simp) (by simp) (by simp) ?_
  rintro (_|n1) ⟨v4, v5⟩ hF K120 hK120
  · try dsimp only at hF
    rw [ref25_list.L1] at hF; cases hF
  try dsimp only at hF
  rw [ref25_list.L1] at hF
  refine AW.seq fun K122 hK122 => ?_
  refine AW.seqR mixed [] [none, none, none, none] (by kernel_rfl) fun G123 R123 hG123 hR123 => ?_
  try simp
  repeat' apply And.intro
  any_goals (first | exact hG123 _ (by kernel_rfl) | refine hR123 _ _ _ ?_ | omega | (unfold maxLen; omega) | (simp; done) | (simp; omega))
  refine AW.wk [(0, AV.slc 1 0 1 v5.length false), (1, AV.lst false false (List.map (AV.int .i64) v1)), (5, AV.int .i64 v4), (13, AV.bool (decide (v4 < (v1.length : Int))))] [(1, .grow (List.map (AV.int .u8) v5))] 2 (by simp) (by simp) (by simp) ?_
  by_cases h2 : v4 < (v1.length : Int)
  · replace hF := ite_t h2 hF
    have h2_ := h2
    try simp at h2_
    refine AW.condT (by decide) (by first | (simp [h2, h2_]; done) | (simp [h2, h2_]; omega)) ?_
    refine AW.skip ?_
    refine hK122 _ _ _ ?_
    refine AW.seq fun K125 hK125 => ?_
    refine AW.block ?_
    refine AW.region mixed [] [none, none, none, none, none, none, none] (by kernel_rfl) fun G126 R126 hG126 hR126 => ?_
    obtain ⟨v6, h3, h4, h5, hF⟩ := idx_elim hF
    have h5_ := get_of h5
    try simp at h5_
    have h4_ := h4
    try simp at h4_
    try simp [h2, h2_, h3, h4, h5, h5_, h4_]
    repeat' apply And.intro
    try any_goals (first | omega | (unfold maxLen; omega) | (simp [h2, h2_, h3, h4, h5, h5_, h4_]; done))
    obtain ⟨v7, h6, hF⟩ := bnd1_elim hF
    refine aCall_l (w_ref25_number k _ _ _ h6) (by simp) [1] [] [1] rfl (.cons (.same (by simp [h2, h2_, h3, h4, h5, h5_, h4_])) (.cons (.same (by simp [h2, h2_, h3, h4, h5, h5_, h4_])) .nil)) (by simp [h2, h2_, h3, h4, h5, h5_, h4_]) (by decide) (by simp) (by simp) (.inl rfl) (by simp) (by simp) ?_
    try simp [h2, h2_, h3, h4, h5, h5_, h4_]
    repeat' apply And.intro
    any_goals (first | exact hG126 _ (by kernel_rfl) | refine hR126 _ _ _ ?_ | omega | (unfold maxLen; omega) | (simp [h2, h2_, h3, h4, h5, h5_, h4_]; done) | (simp [h2, h2_, h3, h4, h5, h5_, h4_]; omega))
    refine hK125 _ _ _ ?_
    refine AW.wk [(0, AV.slc 2 0 1 v7.length false), (1, AV.lst false false (List.map (AV.int .i64) v1)), (5, AV.int .i64 v4)] [(2, .grow (List.map (AV.int .u8) v7))] 3 (by simp [h2, h2_, h3, h4, h5, h5_, h4_]) (by simp [h2, h2_, h3, h4, h5, h5_, h4_]) (by simp) ?_
    refine AW.region mixed [] [none, none, none] (by kernel_rfl) fun G127 R127 hG127 hR127 => ?_
    try simp [h2, h2_, h3, h4, h5, h5_, h4_]
    repeat' apply And.intro
    any_goals (first | exact hG127 _ (by kernel_rfl) | refine hR127 _ _ _ ?_ | omega | (unfold maxLen; omega) | (simp [h2, h2_, h3, h4, h5, h5_, h4_]; done) | (simp [h2, h2_, h3, h4, h5, h5_, h4_]; omega))
    refine hK120 _ _ _ ?_
    refine Can.weak [(0, AV.slc 2 0 1 v7.length false), (1, AV.lst false false (List.map (AV.int .i64) v1)), (5, AV.int .i64 (IntKind.wrap .i64 (v4 + 1)))] [(2, .grow (List.map (AV.int .u8) v7))] 3 (by simp [h2, h2_, h3, h4, h5, h5_, h4_]) (by simp [h2, h2_, h3, h4, h5, h5_, h4_]) (by simp) ?_
    refine Can.ren (m := 1) h0 [(1, 2)] [(0, AV.slc 1 0 1 v7.length false), (1, AV.lst false false (List.map (AV.int .i64) v1)), (5, AV.int .i64 (IntKind.wrap .i64 (v4 + 1)))] [(1, .grow (List.map (AV.int .u8) v7))] 2 (by decide) (by decide) (by decide) rfl (by simp [h2, h2_, h3, h4, h5, h5_, h4_]) (by simp [h2, h2_, h3, h4, h5, h5_, h4_]) ?_
    exact Can.next (k' := n1) ((IntKind.wrap .i64 (v4 + 1), v7)) (by omega) hF (by simp [h2, h2_, h3, h4, h5, h5_, h4_]) (by simp [h2, h2_, h3, h4, h5, h5_, h4_]) (by simp)
  · replace hF := ite_f h2 hF
    have h2_ := h2
    try simp at h2_
    refine AW.condF (by decide) (by first | (simp [h2, h2_]; done) | (simp [h2, h2_]; omega)) ?_
    refine AW.exit ?_
    try simp
    refine hK97 _ _ _ ?_
    refine AW.seqR mixed [] [none, none] (by kernel_rfl) fun G128 R128 hG128 hR128 => ?_
    try simp [h2, h2_]
    repeat' apply And.intro
    any_goals (first | exact hG128 _ (by kernel_rfl) | refine hR128 _ _ _ ?_ | omega | (unfold maxLen; omega) | (simp [h2, h2_]; done) | (simp [h2, h2_]; omega))
    refine AW.wk [(4, AV.slc 1 0 1 v5.length false)] [(1, .grow (List.map (AV.int .u8) v5))] 2 (by simp [h2, h2_]) (by simp [h2, h2_]) (by simp) ?_
    simp only [Option.some.injEq] at hF
    subst hF
    refine AW.ret (hQ _ _ _ ?_ (matchO_0 ?_)).1
    · simp [Try.f83, h2, h2_]
    · simp [h2, h2_]
set_option maxHeartbeats 4000000 in
theorem w_ref01_constants (k : Nat) (v0 : (List Int)) (hF : ref01_constants k = some v0) :
    FCall Try.prog 60 [] [] (AV.lst false false (List.map (AV.int .u32) v0)) [] := by
  unfold ref01_constants at hF
  refine FCall.enter Try.func60 rfl (by simp) (by decide) (by simp) (by simp) (by simp) (by simp) (by simp) ?_
  intro c0 w0 Q h0 hQ
  refine AW.wk [] [] 0 (by simp) (by simp) (by simp) ?_
  refine AW.seqR mixed [] [none] (by kernel_rfl) fun G3 R3 hG3 hR3 => ?_
  try simp
  repeat' apply And.intro
  any_goals (first | exact hG3 _ (by kernel_rfl) | refine hR3 _ _ _ ?_ | omega | (unfold maxLen; omega) | (simp; done) | (simp; omega))
  refine AW.wk [] [] 0 (by simp) (by simp) (by simp) ?_
  refine AW.seqR mixed [] [none, none] (by kernel_rfl) fun G4 R4 hG4 hR4 => ?_
  try simp
  repeat' apply And.intro
  any_goals (first | exact hG4 _ (by kernel_rfl) | refine hR4 _ _ _ ?_ | omega | (unfold maxLen; omega) | (simp; done) | (simp; omega))
  refine AW.wk [(0, AV.lst false true (List.map (AV.int .u32) ([1116352408, 1899447441, 3049323471, 3921009573, 961987163, 1508970993, 2453635748, 2870763221, 3624381080, 310598401, 607225278, 1426881987, 1925078388, 2162078206, 2614888103, 3248222580, 3835390401, 4022224774, 264347078, 604807628, 770255983, 1249150122, 1555081692, 1996064986, 2554220882, 2821834349, 2952996808, 3210313671, 3336571891, 3584528711, 113926993, 338241895, 666307205, 773529912, 1294757372, 1396182291, 1695183700, 1986661051, 2177026350, 2456956037, 2730485921, 2820302411, 3259730800, 3345764771, 3516065817, 3600352804, 4094571909, 275423344, 430227734, 506948616, 659060556, 883997877, 958139571, 1322822218, 1537002063, 1747873779, 1955562222, 2024104815, 2227730452, 2361852424, 2428436474, 2756734187, 3204031479, 3329325298] : List Int)))] [] 0 (by simp) (by simp) (by simp) ?_
  refine AW.flg [(0, AV.lst false false (List.map (AV.int .u32) ([1116352408, 1899447441, 3049323471, 3921009573, 961987163, 1508970993, 2453635748, 2870763221, 3624381080, 310598401, 607225278, 1426881987, 1925078388, 2162078206, 2614888103, 3248222580, 3835390401, 4022224774, 264347078, 604807628, 770255983, 1249150122, 1555081692, 1996064986, 2554220882, 2821834349, 2952996808, 3210313671, 3336571891, 3584528711, 113926993, 338241895, 666307205, 773529912, 1294757372, 1396182291, 1695183700, 1986661051, 2177026350, 2456956037, 2730485921, 2820302411, 3259730800, 3345764771, 3516065817, 3600352804, 4094571909, 275423344, 430227734, 506948616, 659060556, 883997877, 958139571, 1322822218, 1537002063, 1747873779, 1955562222, 2024104815, 2227730452, 2361852424, 2428436474, 2756734187, 3204031479, 3329325298] : List Int)))] [] ⟨(.lst (by simp)), trivial⟩ trivial (by simp) ?_
  simp only [Option.some.injEq] at hF
  subst hF
  refine AW.ret (hQ _ _ _ ?_ (matchO_0 ?_)).1
  · simp [Try.f60]
  · simp
set_option maxHeartbeats 4000000 in
theorem w_ref01_turn (k : Nat) (v0 : Int) (v1 : Int) (v2 : Int) (hF : ref01_turn k v0 v1 = some v2) :
    FCall Try.prog 95 [AV.int .u32 v0, AV.int .u64 v1] [] (AV.int .u32 v2) [] := by
  unfold ref01_turn at hF
  refine FCall.enter Try.func95 rfl (by simp) (by decide) (by simp) (by simp) (by simp) (by simp) (by simp) ?_
  intro c0 w0 Q h0 hQ
  refine AW.wk [(0, AV.int .u32 v0), (1, AV.int .u64 v1)] [] 0 (by simp) (by simp) (by simp) ?_
  refine AW.seqR mixed [] [none] (by kernel_rfl) fun G3 R3 hG3 hR3 => ?_
  try simp
  repeat' apply And.intro
  any_goals (first | exact hG3 _ (by kernel_rfl) | refine hR3 _ _ _ ?_ | omega | (unfold maxLen; omega) | (simp; done) | (simp; omega))
  refine AW.wk [(0, AV.int .u32 v0), (1, AV.int .u64 v1)] [] 0 (by simp) (by simp) (by simp) ?_
  refine AW.seqR mixed [] [none, none, none, none, none, none, none, none, none] (by kernel_rfl) fun G4 R4 hG4 hR4 => ?_
  obtain ⟨h1, hF⟩ := chk_elim hF
  obtain ⟨h2, hF⟩ := chk_elim hF
  try simp [h1, h2]
  repeat' apply And.intro
  any_goals (first | exact hG4 _ (by kernel_rfl) | refine hR4 _ _ _ ?_ | omega | (unfold maxLen; omega) | (simp [h1, h2]; done) | (simp [h1, h2]; omega))
  refine AW.wk [(4, AV.int .u32 (bitsV .or .u32 (Int.fdiv v0 (2 ^ (min v1.toNat 32))) (IntKind.wrap .u32 (v0 * 2 ^ (min ((IntKind.wrap .u64 (32 - v1)).toNat) 32)))))] [] 0 (by simp [h1, h2]) (by simp [h1, h2]) (by simp) ?_
  simp only [Option.some.injEq] at hF
  subst hF
  refine AW.ret (hQ _ _ _ ?_ (matchO_0 ?_)).1
  · simp [Try.f95, h1, h2]
  · simp [h1, h2]
set_option maxHeartbeats 4000000 in
theorem w_ref01_block (k : Nat) (v0 : (List Int)) (v1 : (List Int)) (v2 : (List Int)) (v3 : (List Int)) (hF : ref01_block k v0 v1 v2 = some v3) :
    FCall Try.prog 61 [AV.lst false false (List.map (AV.int .u32) v0), AV.lst false false (List.map (AV.int .u8) v1), AV.lst false false (List.map (AV.int .u32) v2)] [] (AV.slc 0 0 1 v3.length false) [some (.grow (List.map (AV.int .u32) v3))] := by
  unfold ref01_block at hF
  refine FCall.enter Try.func61 rfl (by simp) (by decide) (by simp) (by simp) (by simp) (by simp) (by simp) ?_
  intro c0 w0 Q h0 hQ
  refine AW.wk [(0, AV.lst false false (List.map (AV.int .u32) v0)), (1, AV.lst false false (List.map (AV.int .u8) v1)), (2, AV.lst false false (List.map (AV.int .u32) v2))] [] 0 (by simp [-List.reduceReplicate, sOf_set, ofI_set, allU8_set]) (by simp [-List.reduceReplicate, sOf_set, ofI_set, allU8_set]) (by simp) ?_
  refine AW.seqR mixed [] [none] (by kernel_rfl) fun G361 R361 hG361 hR361 => ?_
  try simp [-List.reduceReplicate, sOf_set, ofI_set, allU8_set]
  repeat' apply And.intro
  any_goals (first | exact hG361 _ (by kernel_rfl) | refine hR361 _ _ _ ?_ | omega | (unfold maxLen; omega) | (simp [-List.reduceReplicate, sOf_set, ofI_set, allU8_set]; done) | (simp [-List.reduceReplicate, sOf_set, ofI_set, allU8_set]; omega))
  refine AW.wk [(0, AV.lst false false (List.map (AV.int .u32) v0)), (1, AV.lst false false (List.map (AV.int .u8) v1)), (2, AV.lst false false (List.map (AV.int .u32) v2))] [] 0 (by simp [-List.reduceReplicate, sOf_set, ofI_set, allU8_set]) (by simp [-List.reduceReplicate, sOf_set, ofI_set, allU8_set]) (by simp) ?_
  refine AW.seqR mixed [19] [none, none] (by kernel_rfl) fun G362 R362 hG362 hR362 => ?_
  obtain ⟨h1, hF⟩ := chk_elim hF
  obtain ⟨v4, h2, hF⟩ := let1_elim hF
  have h2l : v4.length = 64 := by rw [← h2]; exact List.length_replicate
  have h2m : List.replicate 64 (AV.int .u32 0) = List.map (AV.int .u32) v4 := by rw [← h2]; exact (List.map_replicate ..).symm
  have h2n := ne_of_len h2l (by decide)
  try simp [-List.reduceReplicate, sOf_set, ofI_set, allU8_set, h1, h2l, h2m, h2n]
  repeat' apply And.intro
  any_goals (first | exact hG362 _ (by kernel_rfl) | refine hR362 _ _ _ ?_ | omega | (unfold maxLen; omega) | (simp [-List.reduceReplicate, sOf_set, ofI_set, allU8_set, h1, h2l, h2m, h2n]; done) | (simp [-List.reduceReplicate, sOf_set, ofI_set, allU8_set, h1, h2l, h2m, h2n]; omega))
  refine AW.wk [(0, AV.lst false false (List.map (AV.int .u32) v0)), (1, AV.lst false false (List.map (AV.int .u8) v1)), (2, AV.lst false false (List.map (AV.int .u32) v2)), (7, AV.slc 0 0 1 v4.length true)] [(0, .cells (List.map (AV.int .u32) v4))] 1 (by simp [-List.reduceReplicate, sOf_set, ofI_set, allU8_set, h1, h2l, h2m, h2n]) (by simp [-List.reduceReplicate, sOf_set, ofI_set, allU8_set, h1, h2l, h2m, h2n]) (by simp) ?_
  refine AW.seq fun K393 hK393 => ?_
  refine AW.seqR mixed [] [none] (by kernel_rfl) fun G394 R394 hG394 hR394 => ?_
  try simp [-List.reduceReplicate, sOf_set, ofI_set, allU8_set, h1, h2l, h2m, h2n]
  repeat' apply And.intro
  any_goals (first | exact hG394 _ (by kernel_rfl) | refine hR394 _ _ _ ?_ | omega | (unfold maxLen; omega) | (simp [-List.reduceReplicate, sOf_set, ofI_set, allU8_set, h1, h2l, h2m, h2n]; done) | (simp [-List.reduceReplicate, sOf_set, ofI_set, allU8_set, h1, h2l, h2m, h2n]; omega))
  refine AW.wk [(0, AV.lst false false (List.map (AV.int .u32) v0)), (1, AV.lst false false (List.map (AV.int .u8) v1)), (2, AV.lst false false (List.map (AV.int .u32) v2)), (7, AV.slc 0 0 1 v4.length true), (8, AV.int .i64 0)] [(0, .cells (List.map (AV.int .u32) v4))] 1 (by simp [-List.reduceReplicate, sOf_set, ofI_set, allU8_set, h1, h2l, h2m, h2n]) (by simp [-List.reduceReplicate, sOf_set, ofI_set, allU8_set, h1, h2l, h2m, h2n]) (by simp) ?_
  refine AW.block ?_
  refine AW.loopF (α := (Int × (List Int))) (fun n (v5, v6) => ref01_block.L1 k v0 v1 v2 n v5 v6 = some v3) (fun (v5, v6) => [(0, AV.lst false false (List.map (AV.int .u32) v0)), (1, AV.lst false false (List.map (AV.int .u8) v1)), (2, AV.lst false false (List.map (AV.int .u32) v2)), (7, AV.slc 0 0 1 v6.length true), (8, AV.int .i64 v5)]) (fun (v5, v6) => [(0, .cells (List.map (AV.int .u32) v6))]) 1 k ((0, v4)) hF (by simp [-List.reduceReplicate, sOf_set, ofI_set, allU8_set, h1, h2l, h2m, h2n]) (by simp [-List.reduceReplicate, sOf_set, ofI_set, allU8_set, h1, h2l, h2m, h2n]) (by simp) ?_
  rintro (_|n1) ⟨v5, v6⟩ hF K416 hK416
  · try dsimp only at hF
    rw [ref01_block.L1] at hF; cases hF
  try dsimp only at hF
  rw [ref01_block.L1] at hF
  refine AW.seq fun K418 hK418 => ?_
  refine AW.seqR mixed [] [none, none] (by kernel_rfl) fun G419 R419 hG419 hR419 => ?_
  try simp [-List.reduceReplicate, sOf_set, ofI_set, allU8_set, h1, h2l, h2m, h2n]
  repeat' apply And.intro
  any_goals (first | exact hG419 _ (by kernel_rfl) | refine hR419 _ _ _ ?_ | omega | (unfold maxLen; omega) | (simp [-List.reduceReplicate, sOf_set, ofI_set, allU8_set, h1, h2l, h2m, h2n]; done) | (simp [-List.reduceReplicate, sOf_set, ofI_set, allU8_set, h1, h2l, h2m, h2n]; omega))
  refine AW.wk [(0, AV.lst false false (List.map (AV.int .u32) v0)), (1, AV.lst false false (List.map (AV.int .u8) v1)), (2, AV.lst false false (List.map (AV.int .u32) v2)), (7, AV.slc 0 0 1 v6.length true), (8, AV.int .i64 v5), (21, AV.bool (decide (v5 < 16)))] [(0, .cells (List.map (AV.int .u32) v6))] 1 (by simp [-List.reduceReplicate, sOf_set, ofI_set, allU8_set, h1, h2l, h2m, h2n]) (by simp [-List.reduceReplicate, sOf_set, ofI_set, allU8_set, h1, h2l, h2m, h2n]) (by simp) ?_
  by_cases h3 : v5 < 16
  · replace hF := ite_t h3 hF
    have h3_ := h3
    try simp [-List.reduceReplicate] at h3_
    refine AW.condT (by decide) (by first | (simp [-List.reduceReplicate, sOf_set, ofI_set, allU8_set, h1, h2l, h2m, h2n, h3, h3_]; done) | (simp [-List.reduceReplicate, sOf_set, ofI_set, allU8_set, h1, h2l, h2m, h2n, h3, h3_]; omega)) ?_
    refine AW.skip ?_
    refine hK418 _ _ _ ?_
    refine AW.seq fun K421 hK421 => ?_
    refine AW.block ?_
    refine AW.region mixed [] [none, none, none, none, none, none, none, none, none, none, none, none, none, none, none, none, none, none, none, none, none, none, none, none, none, none, none, none, none, none, none, none, none, none, none, none, none] (by kernel_rfl) fun G422 R422 hG422 hR422 => ?_
    obtain ⟨v7, h4, h5, h6, hF⟩ := idx_elim hF
    have h6_ := get_of h6
    try simp [-List.reduceReplicate] at h6_
    have h5_ := h5
    try simp [-List.reduceReplicate] at h5_
    obtain ⟨v8, h7, h8, h9, hF⟩ := idx_elim hF
    have h9_ := get_of h9
    try simp [-List.reduceReplicate] at h9_
    have h8_ := h8
    try simp [-List.reduceReplicate] at h8_
    obtain ⟨v9, h10, h11, h12, hF⟩ := idx_elim hF
    have h12_ := get_of h12
    try simp [-List.reduceReplicate] at h12_
    have h11_ := h11
    try simp [-List.reduceReplicate] at h11_
    obtain ⟨v10, h13, h14, h15, hF⟩ := idx_elim hF
    have h15_ := get_of h15
    try simp [-List.reduceReplicate] at h15_
    have h14_ := h14
    try simp [-List.reduceReplicate] at h14_
    obtain ⟨⟨h16, h17⟩, hF⟩ := chk_elim hF
    have h17_ := ne_of_lt h17
    try simp [-List.reduceReplicate, sOf_set, ofI_set, allU8_set, h1, h2l, h2m, h2n, h3, h3_, h4, h5, h6, h6_, h5_, h7, h8, h9, h9_, h8_, h10, h11, h12, h12_, h11_, h13, h14, h15, h15_, h14_, h16, h17, h17_]
    repeat' apply And.intro
    any_goals (first | exact hG422 _ (by kernel_rfl) | refine hR422 _ _ _ ?_ | omega | (unfold maxLen; omega) | (simp [-List.reduceReplicate, sOf_set, ofI_set, allU8_set, h1, h2l, h2m, h2n, h3, h3_, h4, h5, h6, h6_, h5_, h7, h8, h9, h9_, h8_, h10, h11, h12, h12_, h11_, h13, h14, h15, h15_, h14_, h16, h17, h17_]; done) | (simp [-List.reduceReplicate, sOf_set, ofI_set, allU8_set, h1, h2l, h2m, h2n, h3, h3_, h4, h5, h6, h6_, h5_, h7, h8, h9, h9_, h8_, h10, h11, h12, h12_, h11_, h13, h14, h15, h15_, h14_, h16, h17, h17_]; omega))
    refine hK421 _ _ _ ?_
    refine AW.wk [(0, AV.lst false false (List.map (AV.int .u32) v0)), (1, AV.lst false false (List.map (AV.int .u8) v1)), (2, AV.lst false false (List.map (AV.int .u32) v2)), (7, AV.slc 0 0 1 ((v6.set (v5).toNat (bitsV .or .u32 (bitsV .or .u32 (bitsV .or .u32 (IntKind.wrap .u32 ((IntKind.wrap .u32 v7) * 2 ^ (24))) (IntKind.wrap .u32 ((IntKind.wrap .u32 v8) * 2 ^ (16)))) (IntKind.wrap .u32 ((IntKind.wrap .u32 v9) * 2 ^ (8)))) (IntKind.wrap .u32 v10))).length) true), (8, AV.int .i64 v5)] [(0, .cells (List.map (AV.int .u32) (v6.set (v5).toNat (bitsV .or .u32 (bitsV .or .u32 (bitsV .or .u32 (IntKind.wrap .u32 ((IntKind.wrap .u32 v7) * 2 ^ (24))) (IntKind.wrap .u32 ((IntKind.wrap .u32 v8) * 2 ^ (16)))) (IntKind.wrap .u32 ((IntKind.wrap .u32 v9) * 2 ^ (8)))) (IntKind.wrap .u32 v10)))))] 1 (by simp [-List.reduceReplicate, sOf_set, ofI_set, allU8_set, h1, h2l, h2m, h2n, h3, h3_, h4, h5, h6, h6_, h5_, h7, h8, h9, h9_, h8_, h10, h11, h12, h12_, h11_, h13, h14, h15, h15_, h14_, h16, h17, h17_]) (by simp [-List.reduceReplicate, sOf_set, ofI_set, allU8_set, h1, h2l, h2m, h2n, h3, h3_, h4, h5, h6, h6_, h5_, h7, h8, h9, h9_, h8_, h10, h11, h12, h12_, h11_, h13, h14, h15, h15_, h14_, h16, h17, h17_]) (by simp) ?_
    refine AW.region mixed [] [none, none, none] (by kernel_rfl) fun G423 R423 hG423 hR423 => ?_
    try simp [-List.reduceReplicate, sOf_set, ofI_set, allU8_set, h1, h2l, h2m, h2n, h3, h3_, h4, h5, h6, h6_, h5_, h7, h8, h9, h9_, h8_, h10, h11, h12, h12_, h11_, h13, h14, h15, h15_, h14_, h16, h17, h17_]
    repeat' apply And.intro
    any_goals (first | exact hG423 _ (by kernel_rfl) | refine hR423 _ _ _ ?_ | omega | (unfold maxLen; omega) | (simp [-List.reduceReplicate, sOf_set, ofI_set, allU8_set, h1, h2l, h2m, h2n, h3, h3_, h4, h5, h6, h6_, h5_, h7, h8, h9, h9_, h8_, h10, h11, h12, h12_, h11_, h13, h14, h15, h15_, h14_, h16, h17, h17_]; done) | (simp [-List.reduceReplicate, sOf_set, ofI_set, allU8_set, h1, h2l, h2m, h2n, h3, h3_, h4, h5, h6, h6_, h5_, h7, h8, h9, h9_, h8_, h10, h11, h12, h12_, h11_, h13, h14, h15, h15_, h14_, h16, h17, h17_]; omega))
    refine hK416 _ _ _ ?_
    refine Can.weak [(0, AV.lst false false (List.map (AV.int .u32) v0)), (1, AV.lst false false (List.map (AV.int .u8) v1)), (2, AV.lst false false (List.map (AV.int .u32) v2)), (7, AV.slc 0 0 1 ((v6.set (v5).toNat (bitsV .or .u32 (bitsV .or .u32 (bitsV .or .u32 (IntKind.wrap .u32 ((IntKind.wrap .u32 v7) * 2 ^ (24))) (IntKind.wrap .u32 ((IntKind.wrap .u32 v8) * 2 ^ (16)))) (IntKind.wrap .u32 ((IntKind.wrap .u32 v9) * 2 ^ (8)))) (IntKind.wrap .u32 v10))).length) true), (8, AV.int .i64 (IntKind.wrap .i64 (v5 + 1)))] [(0, .cells (List.map (AV.int .u32) (v6.set (v5).toNat (bitsV .or .u32 (bitsV .or .u32 (bitsV .or .u32 (IntKind.wrap .u32 ((IntKind.wrap .u32 v7) * 2 ^ (24))) (IntKind.wrap .u32 ((IntKind.wrap .u32 v8) * 2 ^ (16)))) (IntKind.wrap .u32 ((IntKind.wrap .u32 v9) * 2 ^ (8)))) (IntKind.wrap .u32 v10)))))] 1 (by simp [-List.reduceReplicate, sOf_set, ofI_set, allU8_set, h1, h2l, h2m, h2n, h3, h3_, h4, h5, h6, h6_, h5_, h7, h8, h9, h9_, h8_, h10, h11, h12, h12_, h11_, h13, h14, h15, h15_, h14_, h16, h17, h17_]) (by simp [-List.reduceReplicate, sOf_set, ofI_set, allU8_set, h1, h2l, h2m, h2n, h3, h3_, h4, h5, h6, h6_, h5_, h7, h8, h9, h9_, h8_, h10, h11, h12, h12_, h11_, h13, h14, h15, h15_, h14_, h16, h17, h17_]) (by simp) ?_
    exact Can.next (k' := n1) ((IntKind.wrap .i64 (v5 + 1), v6.set (v5).toNat (bitsV .or .u32 (bitsV .or .u32 (bitsV .or .u32 (IntKind.wrap .u32 ((IntKind.wrap .u32 v7) * 2 ^ (24))) (IntKind.wrap .u32 ((IntKind.wrap .u32 v8) * 2 ^ (16)))) (IntKind.wrap .u32 ((IntKind.wrap .u32 v9) * 2 ^ (8)))) (IntKind.wrap .u32 v10)))) (by omega) hF (by simp [-List.reduceReplicate, sOf_set, ofI_set, allU8_set, h1, h2l, h2m, h2n, h3, h3_, h4, h5, h6, h6_, h5_, h7, h8, h9, h9_, h8_, h10, h11, h12, h12_, h11_, h13, h14, h15, h15_, h14_, h16, h17, h17_]) (by simp [-List.reduceReplicate, sOf_set, ofI_set, allU8_set, h1, h2l, h2m, h2n, h3, h3_, h4, h5, h6, h6_, h5_, h7, h8, h9, h9_, h8_, h10, h11, h12, h12_, h11_, h13, h14, h15, h15_, h14_, h16, h17, h17_]) (by simp)
  · replace hF := ite_f h3 hF
    have h3_ := h3
    try simp [-List.reduceReplicate] at h3_
    refine AW.condF (by decide) (by first | (simp [-List.reduceReplicate, sOf_set, ofI_set, allU8_set, h1, h2l, h2m, h2n, h3, h3_]; done) | (simp [-List.reduceReplicate, sOf_set, ofI_set, allU8_set, h1, h2l, h2m, h2n, h3, h3_]; omega)) ?_
    refine AW.exit ?_
    try simp [-List.reduceReplicate]
    refine hK393 _ _ _ ?_
    refine AW.seq fun K470 hK470 => ?_
    refine AW.seqR mixed [] [none] (by kernel_rfl) fun G471 R471 hG471 hR471 => ?_
    try simp [-List.reduceReplicate, sOf_set, ofI_set, allU8_set, h1, h2l, h2m, h2n, h3, h3_]
    repeat' apply And.intro
    any_goals (first | exact hG471 _ (by kernel_rfl) | refine hR471 _ _ _ ?_ | omega | (unfold maxLen; omega) | (simp [-List.reduceReplicate, sOf_set, ofI_set, allU8_set, h1, h2l, h2m, h2n, h3, h3_]; done) | (simp [-List.reduceReplicate, sOf_set, ofI_set, allU8_set, h1, h2l, h2m, h2n, h3, h3_]; omega))
    refine AW.wk [(0, AV.lst false false (List.map (AV.int .u32) v0)), (2, AV.lst false false (List.map (AV.int .u32) v2)), (7, AV.slc 0 0 1 v6.length true), (9, AV.int .i64 16)] [(0, .cells (List.map (AV.int .u32) v6))] 1 (by simp [-List.reduceReplicate, sOf_set, ofI_set, allU8_set, h1, h2l, h2m, h2n, h3, h3_]) (by simp [-List.reduceReplicate, sOf_set, ofI_set, allU8_set, h1, h2l, h2m, h2n, h3, h3_]) (by simp) ?_
    refine AW.block ?_
    refine AW.loopF (α := (Int × (List Int))) (fun n (v11, v12) => ref01_block.L2 k v0 v2 n v11 v12 = some v3) (fun (v11, v12) => [(0, AV.lst false false (List.map (AV.int .u32) v0)), (2, AV.lst false false (List.map (AV.int .u32) v2)), (7, AV.slc 0 0 1 v12.length true), (9, AV.int .i64 v11)]) (fun (v11, v12) => [(0, .cells (List.map (AV.int .u32) v12))]) 1 k ((16, v6)) hF (by simp [-List.reduceReplicate, sOf_set, ofI_set, allU8_set, h1, h2l, h2m, h2n, h3, h3_]) (by simp [-List.reduceReplicate, sOf_set, ofI_set, allU8_set, h1, h2l, h2m, h2n, h3, h3_]) (by simp) ?_
    rintro (_|n2) ⟨v11, v12⟩ hF K505 hK505
    · try dsimp only at hF
      rw [ref01_block.L2] at hF; cases hF
    try dsimp only at hF
    rw [ref01_block.L2] at hF
    refine AW.seq fun K507 hK507 => ?_
    refine AW.seqR mixed [] [none, none] (by kernel_rfl) fun G508 R508 hG508 hR508 => ?_
    try simp [-List.reduceReplicate, sOf_set, ofI_set, allU8_set, h1, h2l, h2m, h2n, h3, h3_]
    repeat' apply And.intro
    any_goals (first | exact hG508 _ (by kernel_rfl) | refine hR508 _ _ _ ?_ | omega | (unfold maxLen; omega) | (simp [-List.reduceReplicate, sOf_set, ofI_set, allU8_set, h1, h2l, h2m, h2n, h3, h3_]; done) | (simp [-List.reduceReplicate, sOf_set, ofI_set, allU8_set, h1, h2l, h2m, h2n, h3, h3_]; omega))
    refine AW.wk [(0, AV.lst false false (List.map (AV.int .u32) v0)), (2, AV.lst false false (List.map (AV.int .u32) v2)), (7, AV.slc 0 0 1 v12.length true), (9, AV.int .i64 v11), (61, AV.bool (decide (v11 < 64)))] [(0, .cells (List.map (AV.int .u32) v12))] 1 (by simp [-List.reduceReplicate, sOf_set, ofI_set, allU8_set, h1, h2l, h2m, h2n, h3, h3_]) (by simp [-List.reduceReplicate, sOf_set, ofI_set, allU8_set, h1, h2l, h2m, h2n, h3, h3_]) (by simp) ?_
    by_cases h18 : v11 < 64
    · replace hF := ite_t h18 hF
      have h18_ := h18
      try simp [-List.reduceReplicate] at h18_
      refine AW.condT (by decide) (by first | (simp [-List.reduceReplicate, sOf_set, ofI_set, allU8_set, h1, h2l, h2m, h2n, h3, h3_, h18, h18_]; done) | (simp [-List.reduceReplicate, sOf_set, ofI_set, allU8_set, h1, h2l, h2m, h2n, h3, h3_, h18, h18_]; omega)) ?_
      refine AW.skip ?_
      refine hK507 _ _ _ ?_
      refine AW.seq fun K512 hK512 => ?_
      refine AW.block ?_
      refine AW.seqR mixed [] [none, none, none, none, none, none, none, none, none, none, none, none, none, none, none, none, none, none, none, none, none] (by kernel_rfl) fun G513 R513 hG513 hR513 => ?_
      obtain ⟨⟨h19, h20⟩, hF⟩ := chk_elim hF
      have h20_ := ne_of_lt h20
      obtain ⟨v13, h21, h22, h23, hF⟩ := idx_elim hF
      have h23_ := get_of h23
      try simp [-List.reduceReplicate] at h23_
      have h22_ := h22
      try simp [-List.reduceReplicate] at h22_
      try simp [-List.reduceReplicate, sOf_set, ofI_set, allU8_set, h1, h2l, h2m, h2n, h3, h3_, h18, h18_, h19, h20, h20_, h21, h22, h23, h23_, h22_]
      repeat' apply And.intro
      try any_goals (first | omega | (unfold maxLen; omega) | (simp [-List.reduceReplicate, sOf_set, ofI_set, allU8_set, h1, h2l, h2m, h2n, h3, h3_, h18, h18_, h19, h20, h20_, h21, h22, h23, h23_, h22_]; done))
      obtain ⟨v14, h24, hF⟩ := bnd1_elim hF
      refine aCall_l (w_ref01_turn k _ _ _ h24) (by simp) [] [] [] rfl (.cons (.same (by simp [-List.reduceReplicate, sOf_set, ofI_set, allU8_set, h1, h2l, h2m, h2n, h3, h3_, h18, h18_, h19, h20, h20_, h21, h22, h23, h23_, h22_])) (.cons (.same (by simp [-List.reduceReplicate, sOf_set, ofI_set, allU8_set, h1, h2l, h2m, h2n, h3, h3_, h18, h18_, h19, h20, h20_, h21, h22, h23, h23_, h22_])) .nil)) (by simp [-List.reduceReplicate, sOf_set, ofI_set, allU8_set, h1, h2l, h2m, h2n, h3, h3_, h18, h18_, h19, h20, h20_, h21, h22, h23, h23_, h22_]) (by decide) (by simp) (by simp) (.inl rfl) (by simp) (by simp) ?_
      obtain ⟨⟨h25, h26⟩, hF⟩ := chk_elim hF
      have h26_ := ne_of_lt h26
      try simp [-List.reduceReplicate, sOf_set, ofI_set, allU8_set, h1, h2l, h2m, h2n, h3, h3_, h18, h18_, h19, h20, h20_, h21, h22, h23, h23_, h22_, h25, h26, h26_]
      repeat' apply And.intro
      try any_goals (first | omega | (unfold maxLen; omega) | (simp [-List.reduceReplicate, sOf_set, ofI_set, allU8_set, h1, h2l, h2m, h2n, h3, h3_, h18, h18_, h19, h20, h20_, h21, h22, h23, h23_, h22_, h25, h26, h26_]; done))
      obtain ⟨v15, h27, hF⟩ := bnd1_elim hF
      refine aCall_l (w_ref01_turn k _ _ _ h27) (by simp) [] [] [] rfl (.cons (.same (by simp [-List.reduceReplicate, sOf_set, ofI_set, allU8_set, h1, h2l, h2m, h2n, h3, h3_, h18, h18_, h19, h20, h20_, h21, h22, h23, h23_, h22_, h25, h26, h26_])) (.cons (.same (by simp [-List.reduceReplicate, sOf_set, ofI_set, allU8_set, h1, h2l, h2m, h2n, h3, h3_, h18, h18_, h19, h20, h20_, h21, h22, h23, h23_, h22_, h25, h26, h26_])) .nil)) (by simp [-List.reduceReplicate, sOf_set, ofI_set, allU8_set, h1, h2l, h2m, h2n, h3, h3_, h18, h18_, h19, h20, h20_, h21, h22, h23, h23_, h22_, h25, h26, h26_]) (by decide) (by simp) (by simp) (.inl rfl) (by simp) (by simp) ?_
      obtain ⟨⟨h28, h29⟩, hF⟩ := chk_elim hF
      have h29_ := ne_of_lt h29
      try simp [-List.reduceReplicate, sOf_set, ofI_set, allU8_set, h1, h2l, h2m, h2n, h3, h3_, h18, h18_, h19, h20, h20_, h21, h22, h23, h23_, h22_, h25, h26, h26_, h28, h29, h29_]
      repeat' apply And.intro
      any_goals (first | exact hG513 _ (by kernel_rfl) | refine hR513 _ _ _ ?_ | omega | (unfold maxLen; omega) | (simp [-List.reduceReplicate, sOf_set, ofI_set, allU8_set, h1, h2l, h2m, h2n, h3, h3_, h18, h18_, h19, h20, h20_, h21, h22, h23, h23_, h22_, h25, h26, h26_, h28, h29, h29_]; done) | (simp [-List.reduceReplicate, sOf_set, ofI_set, allU8_set, h1, h2l, h2m, h2n, h3, h3_, h18, h18_, h19, h20, h20_, h21, h22, h23, h23_, h22_, h25, h26, h26_, h28, h29, h29_]; omega))
      refine AW.wk [(0, AV.lst false false (List.map (AV.int .u32) v0)), (2, AV.lst false false (List.map (AV.int .u32) v2)), (7, AV.slc 0 0 1 v12.length true), (9, AV.int .i64 v11), (10, AV.int .u32 (bitsV .xor .u32 (bitsV .xor .u32 v14 v15) (Int.fdiv v13 (2 ^ (3)))))] [(0, .cells (List.map (AV.int .u32) v12))] 1 (by simp [-List.reduceReplicate, sOf_set, ofI_set, allU8_set, h1, h2l, h2m, h2n, h3, h3_, h18, h18_, h19, h20, h20_, h21, h22, h23, h23_, h22_, h25, h26, h26_, h28, h29, h29_]) (by simp [-List.reduceReplicate, sOf_set, ofI_set, allU8_set, h1, h2l, h2m, h2n, h3, h3_, h18, h18_, h19, h20, h20_, h21, h22, h23, h23_, h22_, h25, h26, h26_, h28, h29, h29_]) (by simp) ?_
      refine AW.seqR mixed [] [none, none, none, none, none, none, none, none, none, none, none, none, none, none, none, none, none, none, none, none, none] (by kernel_rfl) fun G514 R514 hG514 hR514 => ?_
      obtain ⟨⟨h30, h31⟩, hF⟩ := chk_elim hF
      have h31_ := ne_of_lt h31
      obtain ⟨v16, h32, h33, h34, hF⟩ := idx_elim hF
      have h34_ := get_of h34
      try simp [-List.reduceReplicate] at h34_
      have h33_ := h33
      try simp [-List.reduceReplicate] at h33_
      try simp [-List.reduceReplicate, sOf_set, ofI_set, allU8_set, h1, h2l, h2m, h2n, h3, h3_, h18, h18_, h19, h20, h20_, h21, h22, h23, h23_, h22_, h25, h26, h26_, h28, h29, h29_, h30, h31, h31_, h32, h33, h34, h34_, h33_]
      repeat' apply And.intro
      try any_goals (first | omega | (unfold maxLen; omega) | (simp [-List.reduceReplicate, sOf_set, ofI_set, allU8_set, h1, h2l, h2m, h2n, h3, h3_, h18, h18_, h19, h20, h20_, h21, h22, h23, h23_, h22_, h25, h26, h26_, h28, h29, h29_, h30, h31, h31_, h32, h33, h34, h34_, h33_]; done))
      obtain ⟨v17, h35, hF⟩ := bnd1_elim hF
      refine aCall_l (w_ref01_turn k _ _ _ h35) (by simp) [] [] [] rfl (.cons (.same (by simp [-List.reduceReplicate, sOf_set, ofI_set, allU8_set, h1, h2l, h2m, h2n, h3, h3_, h18, h18_, h19, h20, h20_, h21, h22, h23, h23_, h22_, h25, h26, h26_, h28, h29, h29_, h30, h31, h31_, h32, h33, h34, h34_, h33_])) (.cons (.same (by simp [-List.reduceReplicate, sOf_set, ofI_set, allU8_set, h1, h2l, h2m, h2n, h3, h3_, h18, h18_, h19, h20, h20_, h21, h22, h23, h23_, h22_, h25, h26, h26_, h28, h29, h29_, h30, h31, h31_, h32, h33, h34, h34_, h33_])) .nil)) (by simp [-List.reduceReplicate, sOf_set, ofI_set, allU8_set, h1, h2l, h2m, h2n, h3, h3_, h18, h18_, h19, h20, h20_, h21, h22, h23, h23_, h22_, h25, h26, h26_, h28, h29, h29_, h30, h31, h31_, h32, h33, h34, h34_, h33_]) (by decide) (by simp) (by simp) (.inl rfl) (by simp) (by simp) ?_
      obtain ⟨⟨h36, h37⟩, hF⟩ := chk_elim hF
      have h37_ := ne_of_lt h37
      try simp [-List.reduceReplicate, sOf_set, ofI_set, allU8_set, h1, h2l, h2m, h2n, h3, h3_, h18, h18_, h19, h20, h20_, h21, h22, h23, h23_, h22_, h25, h26, h26_, h28, h29, h29_, h30, h31, h31_, h32, h33, h34, h34_, h33_, h36, h37, h37_]
      repeat' apply And.intro
      try any_goals (first | omega | (unfold maxLen; omega) | (simp [-List.reduceReplicate, sOf_set, ofI_set, allU8_set, h1, h2l, h2m, h2n, h3, h3_, h18, h18_, h19, h20, h20_, h21, h22, h23, h23_, h22_, h25, h26, h26_, h28, h29, h29_, h30, h31, h31_, h32, h33, h34, h34_, h33_, h36, h37, h37_]; done))
      obtain ⟨v18, h38, hF⟩ := bnd1_elim hF
      refine aCall_l (w_ref01_turn k _ _ _ h38) (by simp) [] [] [] rfl (.cons (.same (by simp [-List.reduceReplicate, sOf_set, ofI_set, allU8_set, h1, h2l, h2m, h2n, h3, h3_, h18, h18_, h19, h20, h20_, h21, h22, h23, h23_, h22_, h25, h26, h26_, h28, h29, h29_, h30, h31, h31_, h32, h33, h34, h34_, h33_, h36, h37, h37_])) (.cons (.same (by simp [-List.reduceReplicate, sOf_set, ofI_set, allU8_set, h1, h2l, h2m, h2n, h3, h3_, h18, h18_, h19, h20, h20_, h21, h22, h23, h23_, h22_, h25, h26, h26_, h28, h29, h29_, h30, h31, h31_, h32, h33, h34, h34_, h33_, h36, h37, h37_])) .nil)) (by simp [-List.reduceReplicate, sOf_set, ofI_set, allU8_set, h1, h2l, h2m, h2n, h3, h3_, h18, h18_, h19, h20, h20_, h21, h22, h23, h23_, h22_, h25, h26, h26_, h28, h29, h29_, h30, h31, h31_, h32, h33, h34, h34_, h33_, h36, h37, h37_]) (by decide) (by simp) (by simp) (.inl rfl) (by simp) (by simp) ?_
      obtain ⟨⟨h39, h40⟩, hF⟩ := chk_elim hF
      have h40_ := ne_of_lt h40
      try simp [-List.reduceReplicate, sOf_set, ofI_set, allU8_set, h1, h2l, h2m, h2n, h3, h3_, h18, h18_, h19, h20, h20_, h21, h22, h23, h23_, h22_, h25, h26, h26_, h28, h29, h29_, h30, h31, h31_, h32, h33, h34, h34_, h33_, h36, h37, h37_, h39, h40, h40_]
      repeat' apply And.intro
      any_goals (first | exact hG514 _ (by kernel_rfl) | refine hR514 _ _ _ ?_ | omega | (unfold maxLen; omega) | (simp [-List.reduceReplicate, sOf_set, ofI_set, allU8_set, h1, h2l, h2m, h2n, h3, h3_, h18, h18_, h19, h20, h20_, h21, h22, h23, h23_, h22_, h25, h26, h26_, h28, h29, h29_, h30, h31, h31_, h32, h33, h34, h34_, h33_, h36, h37, h37_, h39, h40, h40_]; done) | (simp [-List.reduceReplicate, sOf_set, ofI_set, allU8_set, h1, h2l, h2m, h2n, h3, h3_, h18, h18_, h19, h20, h20_, h21, h22, h23, h23_, h22_, h25, h26, h26_, h28, h29, h29_, h30, h31, h31_, h32, h33, h34, h34_, h33_, h36, h37, h37_, h39, h40, h40_]; omega))
      refine AW.wk [(0, AV.lst false false (List.map (AV.int .u32) v0)), (2, AV.lst false false (List.map (AV.int .u32) v2)), (7, AV.slc 0 0 1 v12.length true), (9, AV.int .i64 v11), (10, AV.int .u32 (bitsV .xor .u32 (bitsV .xor .u32 v14 v15) (Int.fdiv v13 (2 ^ (3))))), (11, AV.int .u32 (bitsV .xor .u32 (bitsV .xor .u32 v17 v18) (Int.fdiv v16 (2 ^ (10)))))] [(0, .cells (List.map (AV.int .u32) v12))] 1 (by simp [-List.reduceReplicate, sOf_set, ofI_set, allU8_set, h1, h2l, h2m, h2n, h3, h3_, h18, h18_, h19, h20, h20_, h21, h22, h23, h23_, h22_, h25, h26, h26_, h28, h29, h29_, h30, h31, h31_, h32, h33, h34, h34_, h33_, h36, h37, h37_, h39, h40, h40_]) (by simp [-List.reduceReplicate, sOf_set, ofI_set, allU8_set, h1, h2l, h2m, h2n, h3, h3_, h18, h18_, h19, h20, h20_, h21, h22, h23, h23_, h22_, h25, h26, h26_, h28, h29, h29_, h30, h31, h31_, h32, h33, h34, h34_, h33_, h36, h37, h37_, h39, h40, h40_]) (by simp) ?_
      refine AW.region mixed [] [none, none, none, none, none, none, none, none, none, none, none, none, none, none, none, none, none, none, none] (by kernel_rfl) fun G515 R515 hG515 hR515 => ?_
      obtain ⟨⟨h41, h42⟩, hF⟩ := chk_elim hF
      have h42_ := ne_of_lt h42
      obtain ⟨v19, h43, h44, h45, hF⟩ := idx_elim hF
      have h45_ := get_of h45
      try simp [-List.reduceReplicate] at h45_
      have h44_ := h44
      try simp [-List.reduceReplicate] at h44_
      obtain ⟨⟨h46, h47⟩, hF⟩ := chk_elim hF
      have h47_ := ne_of_lt h47
      obtain ⟨v20, h48, h49, h50, hF⟩ := idx_elim hF
      have h50_ := get_of h50
      try simp [-List.reduceReplicate] at h50_
      have h49_ := h49
      try simp [-List.reduceReplicate] at h49_
      obtain ⟨⟨h51, h52⟩, hF⟩ := chk_elim hF
      have h52_ := ne_of_lt h52
      try simp [-List.reduceReplicate, sOf_set, ofI_set, allU8_set, h1, h2l, h2m, h2n, h3, h3_, h18, h18_, h19, h20, h20_, h21, h22, h23, h23_, h22_, h25, h26, h26_, h28, h29, h29_, h30, h31, h31_, h32, h33, h34, h34_, h33_, h36, h37, h37_, h39, h40, h40_, h41, h42, h42_, h43, h44, h45, h45_, h44_, h46, h47, h47_, h48, h49, h50, h50_, h49_, h51, h52, h52_]
      repeat' apply And.intro
      any_goals (first | exact hG515 _ (by kernel_rfl) | refine hR515 _ _ _ ?_ | omega | (unfold maxLen; omega) | (simp [-List.reduceReplicate, sOf_set, ofI_set, allU8_set, h1, h2l, h2m, h2n, h3, h3_, h18, h18_, h19, h20, h20_, h21, h22, h23, h23_, h22_, h25, h26, h26_, h28, h29, h29_, h30, h31, h31_, h32, h33, h34, h34_, h33_, h36, h37, h37_, h39, h40, h40_, h41, h42, h42_, h43, h44, h45, h45_, h44_, h46, h47, h47_, h48, h49, h50, h50_, h49_, h51, h52, h52_]; done) | (simp [-List.reduceReplicate, sOf_set, ofI_set, allU8_set, h1, h2l, h2m, h2n, h3, h3_, h18, h18_, h19, h20, h20_, h21, h22, h23, h23_, h22_, h25, h26, h26_, h28, h29, h29_, h30, h31, h31_, h32, h33, h34, h34_, h33_, h36, h37, h37_, h39, h40, h40_, h41, h42, h42_, h43, h44, h45, h45_, h44_, h46, h47, h47_, h48, h49, h50, h50_, h49_, h51, h52, h52_]; omega))
      refine hK512 _ _ _ ?_
      refine AW.wk [(0, AV.lst false false (List.map (AV.int .u32) v0)), (2, AV.lst false false (List.map (AV.int .u32) v2)), (7, AV.slc 0 0 1 ((v12.set (v11).toNat (IntKind.wrap .u32 (IntKind.wrap .u32 (IntKind.wrap .u32 (v19 + bitsV .xor .u32 (bitsV .xor .u32 v14 v15) (Int.fdiv v13 (2 ^ (3)))) + v20) + bitsV .xor .u32 (bitsV .xor .u32 v17 v18) (Int.fdiv v16 (2 ^ (10)))))).length) true), (9, AV.int .i64 v11)] [(0, .cells (List.map (AV.int .u32) (v12.set (v11).toNat (IntKind.wrap .u32 (IntKind.wrap .u32 (IntKind.wrap .u32 (v19 + bitsV .xor .u32 (bitsV .xor .u32 v14 v15) (Int.fdiv v13 (2 ^ (3)))) + v20) + bitsV .xor .u32 (bitsV .xor .u32 v17 v18) (Int.fdiv v16 (2 ^ (10))))))))] 1 (by simp [-List.reduceReplicate, sOf_set, ofI_set, allU8_set, h1, h2l, h2m, h2n, h3, h3_, h18, h18_, h19, h20, h20_, h21, h22, h23, h23_, h22_, h25, h26, h26_, h28, h29, h29_, h30, h31, h31_, h32, h33, h34, h34_, h33_, h36, h37, h37_, h39, h40, h40_, h41, h42, h42_, h43, h44, h45, h45_, h44_, h46, h47, h47_, h48, h49, h50, h50_, h49_, h51, h52, h52_]) (by simp [-List.reduceReplicate, sOf_set, ofI_set, allU8_set, h1, h2l, h2m, h2n, h3, h3_, h18, h18_, h19, h20, h20_, h21, h22, h23, h23_, h22_, h25, h26, h26_, h28, h29, h29_, h30, h31, h31_, h32, h33, h34, h34_, h33_, h36, h37, h37_, h39, h40, h40_, h41, h42, h42_, h43, h44, h45, h45_, h44_, h46, h47, h47_, h48, h49, h50, h50_, h49_, h51, h52, h52_]) (by simp) ?_
      refine AW.region mixed [] [none, none, none] (by kernel_rfl) fun G516 R516 hG516 hR516 => ?_
      try simp [-List.reduceReplicate, sOf_set, ofI_set, allU8_set, h1, h2l, h2m, h2n, h3, h3_, h18, h18_, h19, h20, h20_, h21, h22, h23, h23_, h22_, h25, h26, h26_, h28, h29, h29_, h30, h31, h31_, h32, h33, h34, h34_, h33_, h36, h37, h37_, h39, h40, h40_, h41, h42, h42_, h43, h44, h45, h45_, h44_, h46, h47, h47_, h48, h49, h50, h50_, h49_, h51, h52, h52_]
      repeat' apply And.intro
      any_goals (first | exact hG516 _ (by kernel_rfl) | refine hR516 _ _ _ ?_ | omega | (unfold maxLen; omega) | (simp [-List.reduceReplicate, sOf_set, ofI_set, allU8_set, h1, h2l, h2m, h2n, h3, h3_, h18, h18_, h19, h20, h20_, h21, h22, h23, h23_, h22_, h25, h26, h26_, h28, h29, h29_, h30, h31, h31_, h32, h33, h34, h34_, h33_, h36, h37, h37_, h39, h40, h40_, h41, h42, h42_, h43, h44, h45, h45_, h44_, h46, h47, h47_, h48, h49, h50, h50_, h49_, h51, h52, h52_]; done) | (simp [-List.reduceReplicate, sOf_set, ofI_set, allU8_set, h1, h2l, h2m, h2n, h3, h3_, h18, h18_, h19, h20, h20_, h21, h22, h23, h23_, h22_, h25, h26, h26_, h28, h29, h29_, h30, h31, h31_, h32, h33, h34, h34_, h33_, h36, h37, h37_, h39, h40, h40_, h41, h42, h42_, h43, h44, h45, h45_, h44_, h46, h47, h47_, h48, h49, h50, h50_, h49_, h51, h52, h52_]; omega))
      refine hK505 _ _ _ ?_
      refine Can.weak [(0, AV.lst false false (List.map (AV.int .u32) v0)), (2, AV.lst false false (List.map (AV.int .u32) v2)), (7, AV.slc 0 0 1 ((v12.set (v11).toNat (IntKind.wrap .u32 (IntKind.wrap .u32 (IntKind.wrap .u32 (v19 + bitsV .xor .u32 (bitsV .xor .u32 v14 v15) (Int.fdiv v13 (2 ^ (3)))) + v20) + bitsV .xor .u32 (bitsV .xor .u32 v17 v18) (Int.fdiv v16 (2 ^ (10)))))).length) true), (9, AV.int .i64 (IntKind.wrap .i64 (v11 + 1)))] [(0, .cells (List.map (AV.int .u32) (v12.set (v11).toNat (IntKind.wrap .u32 (IntKind.wrap .u32 (IntKind.wrap .u32 (v19 + bitsV .xor .u32 (bitsV .xor .u32 v14 v15) (Int.fdiv v13 (2 ^ (3)))) + v20) + bitsV .xor .u32 (bitsV .xor .u32 v17 v18) (Int.fdiv v16 (2 ^ (10))))))))] 1 (by simp [-List.reduceReplicate, sOf_set, ofI_set, allU8_set, h1, h2l, h2m, h2n, h3, h3_, h18, h18_, h19, h20, h20_, h21, h22, h23, h23_, h22_, h25, h26, h26_, h28, h29, h29_, h30, h31, h31_, h32, h33, h34, h34_, h33_, h36, h37, h37_, h39, h40, h40_, h41, h42, h42_, h43, h44, h45, h45_, h44_, h46, h47, h47_, h48, h49, h50, h50_, h49_, h51, h52, h52_]) (by simp [-List.reduceReplicate, sOf_set, ofI_set, allU8_set, h1, h2l, h2m, h2n, h3, h3_, h18, h18_, h19, h20, h20_, h21, h22, h23, h23_, h22_, h25, h26, h26_, h28, h29, h29_, h30, h31, h31_, h32, h33, h34, h34_, h33_, h36, h37, h37_, h39, h40, h40_, h41, h42, h42_, h43, h44, h45, h45_, h44_, h46, h47, h47_, h48, h49, h50, h50_, h49_, h51, h52, h52_]) (by simp) ?_
      exact Can.next (k' := n2) ((IntKind.wrap .i64 (v11 + 1), v12.set (v11).toNat (IntKind.wrap .u32 (IntKind.wrap .u32 (IntKind.wrap .u32 (v19 + bitsV .xor .u32 (bitsV .xor .u32 v14 v15) (Int.fdiv v13 (2 ^ (3)))) + v20) + bitsV .xor .u32 (bitsV .xor .u32 v17 v18) (Int.fdiv v16 (2 ^ (10))))))) (by omega) hF (by simp [-List.reduceReplicate, sOf_set, ofI_set, allU8_set, h1, h2l, h2m, h2n, h3, h3_, h18, h18_, h19, h20, h20_, h21, h22, h23, h23_, h22_, h25, h26, h26_, h28, h29, h29_, h30, h31, h31_, h32, h33, h34, h34_, h33_, h36, h37, h37_, h39, h40, h40_, h41, h42, h42_, h43, h44, h45, h45_, h44_, h46, h47, h47_, h48, h49, h50, h50_, h49_, h51, h52, h52_]) (by simp [-List.reduceReplicate, sOf_set, ofI_set, allU8_set, h1, h2l, h2m, h2n, h3, h3_, h18, h18_, h19, h20, h20_, h21, h22, h23, h23_, h22_, h25, h26, h26_, h28, h29, h29_, h30, h31, h31_, h32, h33, h34, h34_, h33_, h36, h37, h37_, h39, h40, h40_, h41, h42, h42_, h43, h44, h45, h45_, h44_, h46, h47, h47_, h48, h49, h50, h50_, h49_, h51, h52, h52_]) (by simp)
    · replace hF := ite_f h18 hF
      have h18_ := h18
      try simp [-List.reduceReplicate] at h18_
      refine AW.condF (by decide) (by first | (simp [-List.reduceReplicate, sOf_set, ofI_set, allU8_set, h1, h2l, h2m, h2n, h3, h3_, h18, h18_]; done) | (simp [-List.reduceReplicate, sOf_set, ofI_set, allU8_set, h1, h2l, h2m, h2n, h3, h3_, h18, h18_]; omega)) ?_
      refine AW.exit ?_
      try simp [-List.reduceReplicate]
      refine hK470 _ _ _ ?_
      refine AW.wk [(0, AV.lst false false (List.map (AV.int .u32) v0)), (2, AV.lst false false (List.map (AV.int .u32) v2)), (7, AV.slc 0 0 1 v12.length true)] [(0, .cells (List.map (AV.int .u32) v12))] 1 (by simp [-List.reduceReplicate, sOf_set, ofI_set, allU8_set, h1, h2l, h2m, h2n, h3, h3_, h18, h18_]) (by simp [-List.reduceReplicate, sOf_set, ofI_set, allU8_set, h1, h2l, h2m, h2n, h3, h3_, h18, h18_]) (by simp) ?_
      refine AW.frz 0 (o := .cells (List.map (AV.int .u32) v12)) (by simp [-List.reduceReplicate, sOf_set, ofI_set, allU8_set, h1, h2l, h2m, h2n, h3, h3_, h18, h18_]) rfl [(7, AV.lst false true (List.map (AV.int .u32) v12))] [] ⟨(.l (by simp) (by simp) (by simp) (by simp)), trivial⟩ trivial ?_
      refine AW.wk [(0, AV.lst false false (List.map (AV.int .u32) v0)), (2, AV.lst false false (List.map (AV.int .u32) v2)), (7, AV.lst false true (List.map (AV.int .u32) v12))] [] 1 (by simp [-List.reduceReplicate, sOf_set, ofI_set, allU8_set, h1, h2l, h2m, h2n, h3, h3_, h18, h18_]) (by simp [-List.reduceReplicate, sOf_set, ofI_set, allU8_set, h1, h2l, h2m, h2n, h3, h3_, h18, h18_]) (by simp) ?_
      refine AW.seqR mixed [123] [none, none, none] (by kernel_rfl) fun G517 R517 hG517 hR517 => ?_
      obtain ⟨h53, hF⟩ := chk_elim hF
      have h53_ := h53
      try simp [-List.reduceReplicate] at h53_
      try simp [-List.reduceReplicate, sOf_set, ofI_set, allU8_set, h1, h2l, h2m, h2n, h3, h3_, h18, h18_, h53]
      repeat' apply And.intro
      any_goals (first | exact hG517 _ (by kernel_rfl) | refine hR517 _ _ _ ?_ | omega | (unfold maxLen; omega) | (simp [-List.reduceReplicate, sOf_set, ofI_set, allU8_set, h1, h2l, h2m, h2n, h3, h3_, h18, h18_, h53]; done) | (simp [-List.reduceReplicate, sOf_set, ofI_set, allU8_set, h1, h2l, h2m, h2n, h3, h3_, h18, h18_, h53]; omega))
      refine AW.wk [(0, AV.lst false false (List.map (AV.int .u32) v0)), (2, AV.lst false false (List.map (AV.int .u32) v2)), (7, AV.lst false true (List.map (AV.int .u32) v12)), (12, AV.slc 1 0 1 v0.length false)] [(1, .grow (List.map (AV.int .u32) v0))] 2 (by simp [-List.reduceReplicate, sOf_set, ofI_set, allU8_set, h1, h2l, h2m, h2n, h3, h3_, h18, h18_, h53]) (by simp [-List.reduceReplicate, sOf_set, ofI_set, allU8_set, h1, h2l, h2m, h2n, h3, h3_, h18, h18_, h53]) (by simp) ?_
      refine AW.seq fun K588 hK588 => ?_
      refine AW.seqR mixed [] [none] (by kernel_rfl) fun G589 R589 hG589 hR589 => ?_
      try simp [-List.reduceReplicate, sOf_set, ofI_set, allU8_set, h1, h2l, h2m, h2n, h3, h3_, h18, h18_, h53]
      repeat' apply And.intro
      any_goals (first | exact hG589 _ (by kernel_rfl) | refine hR589 _ _ _ ?_ | omega | (unfold maxLen; omega) | (simp [-List.reduceReplicate, sOf_set, ofI_set, allU8_set, h1, h2l, h2m, h2n, h3, h3_, h18, h18_, h53]; done) | (simp [-List.reduceReplicate, sOf_set, ofI_set, allU8_set, h1, h2l, h2m, h2n, h3, h3_, h18, h18_, h53]; omega))
      refine AW.wk [(0, AV.lst false false (List.map (AV.int .u32) v0)), (2, AV.lst false false (List.map (AV.int .u32) v2)), (7, AV.lst false true (List.map (AV.int .u32) v12)), (12, AV.slc 1 0 1 v0.length false), (13, AV.int .i64 0)] [(1, .grow (List.map (AV.int .u32) v0))] 2 (by simp [-List.reduceReplicate, sOf_set, ofI_set, allU8_set, h1, h2l, h2m, h2n, h3, h3_, h18, h18_, h53]) (by simp [-List.reduceReplicate, sOf_set, ofI_set, allU8_set, h1, h2l, h2m, h2n, h3, h3_, h18, h18_, h53]) (by simp) ?_
      refine AW.block ?_
      refine AW.rnm (m := 0) h0 [(0, 1)] [(0, AV.lst false false (List.map (AV.int .u32) v0)), (2, AV.lst false false (List.map (AV.int .u32) v2)), (7, AV.lst false true (List.map (AV.int .u32) v12)), (12, AV.slc 0 0 1 v0.length false), (13, AV.int .i64 0)] [(0, .grow (List.map (AV.int .u32) v0))] 1 (by decide) (by decide) (by decide) rfl (by simp [-List.reduceReplicate, sOf_set, ofI_set, allU8_set, h1, h2l, h2m, h2n, h3, h3_, h18, h18_, h53]) (by simp [-List.reduceReplicate, sOf_set, ofI_set, allU8_set, h1, h2l, h2m, h2n, h3, h3_, h18, h18_, h53]) ?_
      refine AW.loopF (α := (Int × (List Int))) (fun n (v21, v22) => ref01_block.L3 k v0 v2 v12 n v21 v22 = some v3) (fun (v21, v22) => [(0, AV.lst false false (List.map (AV.int .u32) v0)), (2, AV.lst false false (List.map (AV.int .u32) v2)), (7, AV.lst false true (List.map (AV.int .u32) v12)), (12, AV.slc 0 0 1 v22.length false), (13, AV.int .i64 v21)]) (fun (v21, v22) => [(0, .grow (List.map (AV.int .u32) v22))]) 1 k ((0, v0)) hF (by simp [-List.reduceReplicate, sOf_set, ofI_set, allU8_set, h1, h2l, h2m, h2n, h3, h3_, h18, h18_, h53]) (by simp [-List.reduceReplicate, sOf_set, ofI_set, allU8_set, h1, h2l, h2m, h2n, h3, h3_, h18, h18_, h53]) (by simp) ?_
      rintro (_|n3) ⟨v21, v22⟩ hF K641 hK641
      · try dsimp only at hF
        rw [ref01_block.L3] at hF; cases hF
      try dsimp only at hF
      rw [ref01_block.L3] at hF
      refine AW.seq fun K643 hK643 => ?_
      refine AW.seqR mixed [] [none, none] (by kernel_rfl) fun G644 R644 hG644 hR644 => ?_
      try simp [-List.reduceReplicate, sOf_set, ofI_set, allU8_set, h1, h2l, h2m, h2n, h3, h3_, h18, h18_, h53]
      repeat' apply And.intro
      any_goals (first | exact hG644 _ (by kernel_rfl) | refine hR644 _ _ _ ?_ | omega | (unfold maxLen; omega) | (simp [-List.reduceReplicate, sOf_set, ofI_set, allU8_set, h1, h2l, h2m, h2n, h3, h3_, h18, h18_, h53]; done) | (simp [-List.reduceReplicate, sOf_set, ofI_set, allU8_set, h1, h2l, h2m, h2n, h3, h3_, h18, h18_, h53]; omega))
      refine AW.wk [(0, AV.lst false false (List.map (AV.int .u32) v0)), (2, AV.lst false false (List.map (AV.int .u32) v2)), (7, AV.lst false true (List.map (AV.int .u32) v12)), (12, AV.slc 0 0 1 v22.length false), (13, AV.int .i64 v21), (125, AV.bool (decide (v21 < 64)))] [(0, .grow (List.map (AV.int .u32) v22))] 1 (by simp [-List.reduceReplicate, sOf_set, ofI_set, allU8_set, h1, h2l, h2m, h2n, h3, h3_, h18, h18_, h53]) (by simp [-List.reduceReplicate, sOf_set, ofI_set, allU8_set, h1, h2l, h2m, h2n, h3, h3_, h18, h18_, h53]) (by simp) ?_
      by_cases h54 : v21 < 64
      · replace hF := ite_t h54 hF
        have h54_ := h54
        try simp [-List.reduceReplicate] at h54_
        refine AW.condT (by decide) (by first | (simp [-List.reduceReplicate, sOf_set, ofI_set, allU8_set, h1, h2l, h2m, h2n, h3, h3_, h18, h18_, h53, h54, h54_]; done) | (simp [-List.reduceReplicate, sOf_set, ofI_set, allU8_set, h1, h2l, h2m, h2n, h3, h3_, h18, h18_, h53, h54, h54_]; omega)) ?_
        refine AW.skip ?_
        refine hK643 _ _ _ ?_
        refine AW.wk [(0, AV.lst false false (List.map (AV.int .u32) v0)), (2, AV.lst false false (List.map (AV.int .u32) v2)), (7, AV.lst false true (List.map (AV.int .u32) v12)), (12, AV.slc 0 0 1 v22.length false), (13, AV.int .i64 v21)] [(0, .grow (List.map (AV.int .u32) v22))] 1 (by simp [-List.reduceReplicate, sOf_set, ofI_set, allU8_set, h1, h2l, h2m, h2n, h3, h3_, h18, h18_, h53, h54, h54_]) (by simp [-List.reduceReplicate, sOf_set, ofI_set, allU8_set, h1, h2l, h2m, h2n, h3, h3_, h18, h18_, h53, h54, h54_]) (by simp) ?_
        refine AW.frz 0 (o := .grow (List.map (AV.int .u32) v22)) (by simp [-List.reduceReplicate, sOf_set, ofI_set, allU8_set, h1, h2l, h2m, h2n, h3, h3_, h18, h18_, h53, h54, h54_]) rfl [(12, AV.lst false false (List.map (AV.int .u32) v22))] [] ⟨(.l (by simp) (by simp) (by simp) (by simp)), trivial⟩ trivial ?_
        refine AW.wk [(0, AV.lst false false (List.map (AV.int .u32) v0)), (2, AV.lst false false (List.map (AV.int .u32) v2)), (7, AV.lst false true (List.map (AV.int .u32) v12)), (12, AV.lst false false (List.map (AV.int .u32) v22)), (13, AV.int .i64 v21)] [] 1 (by simp [-List.reduceReplicate, sOf_set, ofI_set, allU8_set, h1, h2l, h2m, h2n, h3, h3_, h18, h18_, h53, h54, h54_]) (by simp [-List.reduceReplicate, sOf_set, ofI_set, allU8_set, h1, h2l, h2m, h2n, h3, h3_, h18, h18_, h53, h54, h54_]) (by simp) ?_
        refine AW.seq fun K651 hK651 => ?_
        refine AW.block ?_
        refine AW.seqR mixed [] [none, none, none, none, none, none, none, none, none, none, none, none, none, none, none] (by kernel_rfl) fun G652 R652 hG652 hR652 => ?_
        obtain ⟨v23, h55, h56, h57, hF⟩ := idx_elim hF
        have h57_ := get_of h57
        try simp [-List.reduceReplicate] at h57_
        have h56_ := h56
        try simp [-List.reduceReplicate] at h56_
        try simp [-List.reduceReplicate, sOf_set, ofI_set, allU8_set, h1, h2l, h2m, h2n, h3, h3_, h18, h18_, h53, h54, h54_, h55, h56, h57, h57_, h56_]
        repeat' apply And.intro
        try any_goals (first | omega | (unfold maxLen; omega) | (simp [-List.reduceReplicate, sOf_set, ofI_set, allU8_set, h1, h2l, h2m, h2n, h3, h3_, h18, h18_, h53, h54, h54_, h55, h56, h57, h57_, h56_]; done))
        obtain ⟨v24, h58, hF⟩ := bnd1_elim hF
        refine aCall_l (w_ref01_turn k _ _ _ h58) (by simp) [] [] [] rfl (.cons (.same (by simp [-List.reduceReplicate, sOf_set, ofI_set, allU8_set, h1, h2l, h2m, h2n, h3, h3_, h18, h18_, h53, h54, h54_, h55, h56, h57, h57_, h56_])) (.cons (.same (by simp [-List.reduceReplicate, sOf_set, ofI_set, allU8_set, h1, h2l, h2m, h2n, h3, h3_, h18, h18_, h53, h54, h54_, h55, h56, h57, h57_, h56_])) .nil)) (by simp [-List.reduceReplicate, sOf_set, ofI_set, allU8_set, h1, h2l, h2m, h2n, h3, h3_, h18, h18_, h53, h54, h54_, h55, h56, h57, h57_, h56_]) (by decide) (by simp) (by simp) (.inl rfl) (by simp) (by simp) ?_
        try simp [-List.reduceReplicate, sOf_set, ofI_set, allU8_set, h1, h2l, h2m, h2n, h3, h3_, h18, h18_, h53, h54, h54_, h55, h56, h57, h57_, h56_]
        repeat' apply And.intro
        try any_goals (first | omega | (unfold maxLen; omega) | (simp [-List.reduceReplicate, sOf_set, ofI_set, allU8_set, h1, h2l, h2m, h2n, h3, h3_, h18, h18_, h53, h54, h54_, h55, h56, h57, h57_, h56_]; done))
        obtain ⟨v25, h59, hF⟩ := bnd1_elim hF
        refine aCall_l (w_ref01_turn k _ _ _ h59) (by simp) [] [] [] rfl (.cons (.same (by simp [-List.reduceReplicate, sOf_set, ofI_set, allU8_set, h1, h2l, h2m, h2n, h3, h3_, h18, h18_, h53, h54, h54_, h55, h56, h57, h57_, h56_])) (.cons (.same (by simp [-List.reduceReplicate, sOf_set, ofI_set, allU8_set, h1, h2l, h2m, h2n, h3, h3_, h18, h18_, h53, h54, h54_, h55, h56, h57, h57_, h56_])) .nil)) (by simp [-List.reduceReplicate, sOf_set, ofI_set, allU8_set, h1, h2l, h2m, h2n, h3, h3_, h18, h18_, h53, h54, h54_, h55, h56, h57, h57_, h56_]) (by decide) (by simp) (by simp) (.inl rfl) (by simp) (by simp) ?_
        try simp [-List.reduceReplicate, sOf_set, ofI_set, allU8_set, h1, h2l, h2m, h2n, h3, h3_, h18, h18_, h53, h54, h54_, h55, h56, h57, h57_, h56_]
        repeat' apply And.intro
        try any_goals (first | omega | (unfold maxLen; omega) | (simp [-List.reduceReplicate, sOf_set, ofI_set, allU8_set, h1, h2l, h2m, h2n, h3, h3_, h18, h18_, h53, h54, h54_, h55, h56, h57, h57_, h56_]; done))
        obtain ⟨v26, h60, hF⟩ := bnd1_elim hF
        refine aCall_l (w_ref01_turn k _ _ _ h60) (by simp) [] [] [] rfl (.cons (.same (by simp [-List.reduceReplicate, sOf_set, ofI_set, allU8_set, h1, h2l, h2m, h2n, h3, h3_, h18, h18_, h53, h54, h54_, h55, h56, h57, h57_, h56_])) (.cons (.same (by simp [-List.reduceReplicate, sOf_set, ofI_set, allU8_set, h1, h2l, h2m, h2n, h3, h3_, h18, h18_, h53, h54, h54_, h55, h56, h57, h57_, h56_])) .nil)) (by simp [-List.reduceReplicate, sOf_set, ofI_set, allU8_set, h1, h2l, h2m, h2n, h3, h3_, h18, h18_, h53, h54, h54_, h55, h56, h57, h57_, h56_]) (by decide) (by simp) (by simp) (.inl rfl) (by simp) (by simp) ?_
        try simp [-List.reduceReplicate, sOf_set, ofI_set, allU8_set, h1, h2l, h2m, h2n, h3, h3_, h18, h18_, h53, h54, h54_, h55, h56, h57, h57_, h56_]
        repeat' apply And.intro
        any_goals (first | exact hG652 _ (by kernel_rfl) | refine hR652 _ _ _ ?_ | omega | (unfold maxLen; omega) | (simp [-List.reduceReplicate, sOf_set, ofI_set, allU8_set, h1, h2l, h2m, h2n, h3, h3_, h18, h18_, h53, h54, h54_, h55, h56, h57, h57_, h56_]; done) | (simp [-List.reduceReplicate, sOf_set, ofI_set, allU8_set, h1, h2l, h2m, h2n, h3, h3_, h18, h18_, h53, h54, h54_, h55, h56, h57, h57_, h56_]; omega))
        refine AW.wk [(0, AV.lst false false (List.map (AV.int .u32) v0)), (2, AV.lst false false (List.map (AV.int .u32) v2)), (7, AV.lst false true (List.map (AV.int .u32) v12)), (12, AV.lst false false (List.map (AV.int .u32) v22)), (13, AV.int .i64 v21), (14, AV.int .u32 (bitsV .xor .u32 (bitsV .xor .u32 v24 v25) v26))] [] 1 (by simp [-List.reduceReplicate, sOf_set, ofI_set, allU8_set, h1, h2l, h2m, h2n, h3, h3_, h18, h18_, h53, h54, h54_, h55, h56, h57, h57_, h56_]) (by simp [-List.reduceReplicate, sOf_set, ofI_set, allU8_set, h1, h2l, h2m, h2n, h3, h3_, h18, h18_, h53, h54, h54_, h55, h56, h57, h57_, h56_]) (by simp) ?_
        refine AW.seqR mixed [] [none, none, none, none, none, none, none, none, none, none, none, none, none, none, none, none, none] (by kernel_rfl) fun G653 R653 hG653 hR653 => ?_
        obtain ⟨v27, h61, h62, h63, hF⟩ := idx_elim hF
        have h63_ := get_of h63
        try simp [-List.reduceReplicate] at h63_
        have h62_ := h62
        try simp [-List.reduceReplicate] at h62_
        obtain ⟨v28, h64, h65, h66, hF⟩ := idx_elim hF
        have h66_ := get_of h66
        try simp [-List.reduceReplicate] at h66_
        have h65_ := h65
        try simp [-List.reduceReplicate] at h65_
        try simp [-List.reduceReplicate, sOf_set, ofI_set, allU8_set, h1, h2l, h2m, h2n, h3, h3_, h18, h18_, h53, h54, h54_, h55, h56, h57, h57_, h56_, h61, h62, h63, h63_, h62_, h64, h65, h66, h66_, h65_]
        repeat' apply And.intro
        any_goals (first | exact hG653 _ (by kernel_rfl) | refine hR653 _ _ _ ?_ | omega | (unfold maxLen; omega) | (simp [-List.reduceReplicate, sOf_set, ofI_set, allU8_set, h1, h2l, h2m, h2n, h3, h3_, h18, h18_, h53, h54, h54_, h55, h56, h57, h57_, h56_, h61, h62, h63, h63_, h62_, h64, h65, h66, h66_, h65_]; done) | (simp [-List.reduceReplicate, sOf_set, ofI_set, allU8_set, h1, h2l, h2m, h2n, h3, h3_, h18, h18_, h53, h54, h54_, h55, h56, h57, h57_, h56_, h61, h62, h63, h63_, h62_, h64, h65, h66, h66_, h65_]; omega))
        refine AW.wk [(0, AV.lst false false (List.map (AV.int .u32) v0)), (2, AV.lst false false (List.map (AV.int .u32) v2)), (7, AV.lst false true (List.map (AV.int .u32) v12)), (12, AV.lst false false (List.map (AV.int .u32) v22)), (13, AV.int .i64 v21), (14, AV.int .u32 (bitsV .xor .u32 (bitsV .xor .u32 v24 v25) v26)), (15, AV.int .u32 (bitsV .xor .u32 (bitsV .and .u32 v23 v27) (bitsV .and .u32 (bitsV .xor .u32 (IntKind.max .u32) v23) v28)))] [] 1 (by simp [-List.reduceReplicate, sOf_set, ofI_set, allU8_set, h1, h2l, h2m, h2n, h3, h3_, h18, h18_, h53, h54, h54_, h55, h56, h57, h57_, h56_, h61, h62, h63, h63_, h62_, h64, h65, h66, h66_, h65_]) (by simp [-List.reduceReplicate, sOf_set, ofI_set, allU8_set, h1, h2l, h2m, h2n, h3, h3_, h18, h18_, h53, h54, h54_, h55, h56, h57, h57_, h56_, h61, h62, h63, h63_, h62_, h64, h65, h66, h66_, h65_]) (by simp) ?_
        refine AW.seqR mixed [] [none, none, none, none, none, none, none, none, none, none, none, none, none, none, none, none, none, none] (by kernel_rfl) fun G654 R654 hG654 hR654 => ?_
        obtain ⟨v29, h67, h68, h69, hF⟩ := idx_elim hF
        have h69_ := get_of h69
        try simp [-List.reduceReplicate] at h69_
        have h68_ := h68
        try simp [-List.reduceReplicate] at h68_
        obtain ⟨v30, h70, h71, h72, hF⟩ := idx_elim hF
        have h72_ := get_of h72
        try simp [-List.reduceReplicate] at h72_
        have h71_ := h71
        try simp [-List.reduceReplicate] at h71_
        obtain ⟨v31, h73, h74, h75, hF⟩ := idx_elim hF
        have h75_ := get_of h75
        try simp [-List.reduceReplicate] at h75_
        have h74_ := h74
        try simp [-List.reduceReplicate] at h74_
        try simp [-List.reduceReplicate, sOf_set, ofI_set, allU8_set, h1, h2l, h2m, h2n, h3, h3_, h18, h18_, h53, h54, h54_, h55, h56, h57, h57_, h56_, h61, h62, h63, h63_, h62_, h64, h65, h66, h66_, h65_, h67, h68, h69, h69_, h68_, h70, h71, h72, h72_, h71_, h73, h74, h75, h75_, h74_]
        repeat' apply And.intro
        any_goals (first | exact hG654 _ (by kernel_rfl) | refine hR654 _ _ _ ?_ | omega | (unfold maxLen; omega) | (simp [-List.reduceReplicate, sOf_set, ofI_set, allU8_set, h1, h2l, h2m, h2n, h3, h3_, h18, h18_, h53, h54, h54_, h55, h56, h57, h57_, h56_, h61, h62, h63, h63_, h62_, h64, h65, h66, h66_, h65_, h67, h68, h69, h69_, h68_, h70, h71, h72, h72_, h71_, h73, h74, h75, h75_, h74_]; done) | (simp [-List.reduceReplicate, sOf_set, ofI_set, allU8_set, h1, h2l, h2m, h2n, h3, h3_, h18, h18_, h53, h54, h54_, h55, h56, h57, h57_, h56_, h61, h62, h63, h63_, h62_, h64, h65, h66, h66_, h65_, h67, h68, h69, h69_, h68_, h70, h71, h72, h72_, h71_, h73, h74, h75, h75_, h74_]; omega))
        refine AW.wk [(0, AV.lst false false (List.map (AV.int .u32) v0)), (2, AV.lst false false (List.map (AV.int .u32) v2)), (7, AV.lst false true (List.map (AV.int .u32) v12)), (12, AV.lst false false (List.map (AV.int .u32) v22)), (13, AV.int .i64 v21), (16, AV.int .u32 (IntKind.wrap .u32 (IntKind.wrap .u32 (IntKind.wrap .u32 (IntKind.wrap .u32 (v29 + bitsV .xor .u32 (bitsV .xor .u32 v24 v25) v26) + bitsV .xor .u32 (bitsV .and .u32 v23 v27) (bitsV .and .u32 (bitsV .xor .u32 (IntKind.max .u32) v23) v28)) + v30) + v31)))] [] 1 (by simp [-List.reduceReplicate, sOf_set, ofI_set, allU8_set, h1, h2l, h2m, h2n, h3, h3_, h18, h18_, h53, h54, h54_, h55, h56, h57, h57_, h56_, h61, h62, h63, h63_, h62_, h64, h65, h66, h66_, h65_, h67, h68, h69, h69_, h68_, h70, h71, h72, h72_, h71_, h73, h74, h75, h75_, h74_]) (by simp [-List.reduceReplicate, sOf_set, ofI_set, allU8_set, h1, h2l, h2m, h2n, h3, h3_, h18, h18_, h53, h54, h54_, h55, h56, h57, h57_, h56_, h61, h62, h63, h63_, h62_, h64, h65, h66, h66_, h65_, h67, h68, h69, h69_, h68_, h70, h71, h72, h72_, h71_, h73, h74, h75, h75_, h74_]) (by simp) ?_
        refine AW.seqR mixed [] [none, none, none, none, none, none, none, none, none, none, none, none, none, none, none] (by kernel_rfl) fun G655 R655 hG655 hR655 => ?_
        obtain ⟨v32, h76, h77, h78, hF⟩ := idx_elim hF
        have h78_ := get_of h78
        try simp [-List.reduceReplicate] at h78_
        have h77_ := h77
        try simp [-List.reduceReplicate] at h77_
        have h78z := head_of h78
        try simp [-List.reduceReplicate, sOf_set, ofI_set, allU8_set, h1, h2l, h2m, h2n, h3, h3_, h18, h18_, h53, h54, h54_, h55, h56, h57, h57_, h56_, h61, h62, h63, h63_, h62_, h64, h65, h66, h66_, h65_, h67, h68, h69, h69_, h68_, h70, h71, h72, h72_, h71_, h73, h74, h75, h75_, h74_, h76, h77, h78, h78_, h77_, h78z]
        repeat' apply And.intro
        try any_goals (first | omega | (unfold maxLen; omega) | (simp [-List.reduceReplicate, sOf_set, ofI_set, allU8_set, h1, h2l, h2m, h2n, h3, h3_, h18, h18_, h53, h54, h54_, h55, h56, h57, h57_, h56_, h61, h62, h63, h63_, h62_, h64, h65, h66, h66_, h65_, h67, h68, h69, h69_, h68_, h70, h71, h72, h72_, h71_, h73, h74, h75, h75_, h74_, h76, h77, h78, h78_, h77_, h78z]; done))
        obtain ⟨v33, h79, hF⟩ := bnd1_elim hF
        refine aCall_l (w_ref01_turn k _ _ _ h79) (by simp) [] [] [] rfl (.cons (.same (by simp [-List.reduceReplicate, sOf_set, ofI_set, allU8_set, h1, h2l, h2m, h2n, h3, h3_, h18, h18_, h53, h54, h54_, h55, h56, h57, h57_, h56_, h61, h62, h63, h63_, h62_, h64, h65, h66, h66_, h65_, h67, h68, h69, h69_, h68_, h70, h71, h72, h72_, h71_, h73, h74, h75, h75_, h74_, h76, h77, h78, h78_, h77_, h78z])) (.cons (.same (by simp [-List.reduceReplicate, sOf_set, ofI_set, allU8_set, h1, h2l, h2m, h2n, h3, h3_, h18, h18_, h53, h54, h54_, h55, h56, h57, h57_, h56_, h61, h62, h63, h63_, h62_, h64, h65, h66, h66_, h65_, h67, h68, h69, h69_, h68_, h70, h71, h72, h72_, h71_, h73, h74, h75, h75_, h74_, h76, h77, h78, h78_, h77_, h78z])) .nil)) (by simp [-List.reduceReplicate, sOf_set, ofI_set, allU8_set, h1, h2l, h2m, h2n, h3, h3_, h18, h18_, h53, h54, h54_, h55, h56, h57, h57_, h56_, h61, h62, h63, h63_, h62_, h64, h65, h66, h66_, h65_, h67, h68, h69, h69_, h68_, h70, h71, h72, h72_, h71_, h73, h74, h75, h75_, h74_, h76, h77, h78, h78_, h77_, h78z]) (by decide) (by simp) (by simp) (.inl rfl) (by simp) (by simp) ?_
        try simp [-List.reduceReplicate, sOf_set, ofI_set, allU8_set, h1, h2l, h2m, h2n, h3, h3_, h18, h18_, h53, h54, h54_, h55, h56, h57, h57_, h56_, h61, h62, h63, h63_, h62_, h64, h65, h66, h66_, h65_, h67, h68, h69, h69_, h68_, h70, h71, h72, h72_, h71_, h73, h74, h75, h75_, h74_, h76, h77, h78, h78_, h77_, h78z]
        repeat' apply And.intro
        try any_goals (first | omega | (unfold maxLen; omega) | (simp [-List.reduceReplicate, sOf_set, ofI_set, allU8_set, h1, h2l, h2m, h2n, h3, h3_, h18, h18_, h53, h54, h54_, h55, h56, h57, h57_, h56_, h61, h62, h63, h63_, h62_, h64, h65, h66, h66_, h65_, h67, h68, h69, h69_, h68_, h70, h71, h72, h72_, h71_, h73, h74, h75, h75_, h74_, h76, h77, h78, h78_, h77_, h78z]; done))
        obtain ⟨v34, h80, hF⟩ := bnd1_elim hF
        refine aCall_l (w_ref01_turn k _ _ _ h80) (by simp) [] [] [] rfl (.cons (.same (by simp [-List.reduceReplicate, sOf_set, ofI_set, allU8_set, h1, h2l, h2m, h2n, h3, h3_, h18, h18_, h53, h54, h54_, h55, h56, h57, h57_, h56_, h61, h62, h63, h63_, h62_, h64, h65, h66, h66_, h65_, h67, h68, h69, h69_, h68_, h70, h71, h72, h72_, h71_, h73, h74, h75, h75_, h74_, h76, h77, h78, h78_, h77_, h78z])) (.cons (.same (by simp [-List.reduceReplicate, sOf_set, ofI_set, allU8_set, h1, h2l, h2m, h2n, h3, h3_, h18, h18_, h53, h54, h54_, h55, h56, h57, h57_, h56_, h61, h62, h63, h63_, h62_, h64, h65, h66, h66_, h65_, h67, h68, h69, h69_, h68_, h70, h71, h72, h72_, h71_, h73, h74, h75, h75_, h74_, h76, h77, h78, h78_, h77_, h78z])) .nil)) (by simp [-List.reduceReplicate, sOf_set, ofI_set, allU8_set, h1, h2l, h2m, h2n, h3, h3_, h18, h18_, h53, h54, h54_, h55, h56, h57, h57_, h56_, h61, h62, h63, h63_, h62_, h64, h65, h66, h66_, h65_, h67, h68, h69, h69_, h68_, h70, h71, h72, h72_, h71_, h73, h74, h75, h75_, h74_, h76, h77, h78, h78_, h77_, h78z]) (by decide) (by simp) (by simp) (.inl rfl) (by simp) (by simp) ?_
        try simp [-List.reduceReplicate, sOf_set, ofI_set, allU8_set, h1, h2l, h2m, h2n, h3, h3_, h18, h18_, h53, h54, h54_, h55, h56, h57, h57_, h56_, h61, h62, h63, h63_, h62_, h64, h65, h66, h66_, h65_, h67, h68, h69, h69_, h68_, h70, h71, h72, h72_, h71_, h73, h74, h75, h75_, h74_, h76, h77, h78, h78_, h77_, h78z]
        repeat' apply And.intro
        try any_goals (first | omega | (unfold maxLen; omega) | (simp [-List.reduceReplicate, sOf_set, ofI_set, allU8_set, h1, h2l, h2m, h2n, h3, h3_, h18, h18_, h53, h54, h54_, h55, h56, h57, h57_, h56_, h61, h62, h63, h63_, h62_, h64, h65, h66, h66_, h65_, h67, h68, h69, h69_, h68_, h70, h71, h72, h72_, h71_, h73, h74, h75, h75_, h74_, h76, h77, h78, h78_, h77_, h78z]; done))
        obtain ⟨v35, h81, hF⟩ := bnd1_elim hF
        refine aCall_l (w_ref01_turn k _ _ _ h81) (by simp) [] [] [] rfl (.cons (.same (by simp [-List.reduceReplicate, sOf_set, ofI_set, allU8_set, h1, h2l, h2m, h2n, h3, h3_, h18, h18_, h53, h54, h54_, h55, h56, h57, h57_, h56_, h61, h62, h63, h63_, h62_, h64, h65, h66, h66_, h65_, h67, h68, h69, h69_, h68_, h70, h71, h72, h72_, h71_, h73, h74, h75, h75_, h74_, h76, h77, h78, h78_, h77_, h78z])) (.cons (.same (by simp [-List.reduceReplicate, sOf_set, ofI_set, allU8_set, h1, h2l, h2m, h2n, h3, h3_, h18, h18_, h53, h54, h54_, h55, h56, h57, h57_, h56_, h61, h62, h63, h63_, h62_, h64, h65, h66, h66_, h65_, h67, h68, h69, h69_, h68_, h70, h71, h72, h72_, h71_, h73, h74, h75, h75_, h74_, h76, h77, h78, h78_, h77_, h78z])) .nil)) (by simp [-List.reduceReplicate, sOf_set, ofI_set, allU8_set, h1, h2l, h2m, h2n, h3, h3_, h18, h18_, h53, h54, h54_, h55, h56, h57, h57_, h56_, h61, h62, h63, h63_, h62_, h64, h65, h66, h66_, h65_, h67, h68, h69, h69_, h68_, h70, h71, h72, h72_, h71_, h73, h74, h75, h75_, h74_, h76, h77, h78, h78_, h77_, h78z]) (by decide) (by simp) (by simp) (.inl rfl) (by simp) (by simp) ?_
        try simp [-List.reduceReplicate, sOf_set, ofI_set, allU8_set, h1, h2l, h2m, h2n, h3, h3_, h18, h18_, h53, h54, h54_, h55, h56, h57, h57_, h56_, h61, h62, h63, h63_, h62_, h64, h65, h66, h66_, h65_, h67, h68, h69, h69_, h68_, h70, h71, h72, h72_, h71_, h73, h74, h75, h75_, h74_, h76, h77, h78, h78_, h77_, h78z]
        repeat' apply And.intro
        any_goals (first | exact hG655 _ (by kernel_rfl) | refine hR655 _ _ _ ?_ | omega | (unfold maxLen; omega) | (simp [-List.reduceReplicate, sOf_set, ofI_set, allU8_set, h1, h2l, h2m, h2n, h3, h3_, h18, h18_, h53, h54, h54_, h55, h56, h57, h57_, h56_, h61, h62, h63, h63_, h62_, h64, h65, h66, h66_, h65_, h67, h68, h69, h69_, h68_, h70, h71, h72, h72_, h71_, h73, h74, h75, h75_, h74_, h76, h77, h78, h78_, h77_, h78z]; done) | (simp [-List.reduceReplicate, sOf_set, ofI_set, allU8_set, h1, h2l, h2m, h2n, h3, h3_, h18, h18_, h53, h54, h54_, h55, h56, h57, h57_, h56_, h61, h62, h63, h63_, h62_, h64, h65, h66, h66_, h65_, h67, h68, h69, h69_, h68_, h70, h71, h72, h72_, h71_, h73, h74, h75, h75_, h74_, h76, h77, h78, h78_, h77_, h78z]; omega))
        refine AW.wk [(0, AV.lst false false (List.map (AV.int .u32) v0)), (2, AV.lst false false (List.map (AV.int .u32) v2)), (7, AV.lst false true (List.map (AV.int .u32) v12)), (12, AV.lst false false (List.map (AV.int .u32) v22)), (13, AV.int .i64 v21), (14, AV.int .u32 (bitsV .xor .u32 (bitsV .xor .u32 v33 v34) v35)), (16, AV.int .u32 (IntKind.wrap .u32 (IntKind.wrap .u32 (IntKind.wrap .u32 (IntKind.wrap .u32 (v29 + bitsV .xor .u32 (bitsV .xor .u32 v24 v25) v26) + bitsV .xor .u32 (bitsV .and .u32 v23 v27) (bitsV .and .u32 (bitsV .xor .u32 (IntKind.max .u32) v23) v28)) + v30) + v31)))] [] 1 (by simp [-List.reduceReplicate, sOf_set, ofI_set, allU8_set, h1, h2l, h2m, h2n, h3, h3_, h18, h18_, h53, h54, h54_, h55, h56, h57, h57_, h56_, h61, h62, h63, h63_, h62_, h64, h65, h66, h66_, h65_, h67, h68, h69, h69_, h68_, h70, h71, h72, h72_, h71_, h73, h74, h75, h75_, h74_, h76, h77, h78, h78_, h77_, h78z]) (by simp [-List.reduceReplicate, sOf_set, ofI_set, allU8_set, h1, h2l, h2m, h2n, h3, h3_, h18, h18_, h53, h54, h54_, h55, h56, h57, h57_, h56_, h61, h62, h63, h63_, h62_, h64, h65, h66, h66_, h65_, h67, h68, h69, h69_, h68_, h70, h71, h72, h72_, h71_, h73, h74, h75, h75_, h74_, h76, h77, h78, h78_, h77_, h78z]) (by simp) ?_
        refine AW.seqR mixed [] [none, none, none, none, none, none, none, none, none, none, none, none, none, none, none, none, none, none, none, none, none, none, none, none] (by kernel_rfl) fun G656 R656 hG656 hR656 => ?_
        obtain ⟨v36, h82, h83, h84, hF⟩ := idx_elim hF
        have h84_ := get_of h84
        try simp [-List.reduceReplicate] at h84_
        have h83_ := h83
        try simp [-List.reduceReplicate] at h83_
        obtain ⟨v37, h85, h86, h87, hF⟩ := idx_elim hF
        have h87_ := get_of h87
        try simp [-List.reduceReplicate] at h87_
        have h86_ := h86
        try simp [-List.reduceReplicate] at h86_
        try simp [-List.reduceReplicate, sOf_set, ofI_set, allU8_set, h1, h2l, h2m, h2n, h3, h3_, h18, h18_, h53, h54, h54_, h55, h56, h57, h57_, h56_, h61, h62, h63, h63_, h62_, h64, h65, h66, h66_, h65_, h67, h68, h69, h69_, h68_, h70, h71, h72, h72_, h71_, h73, h74, h75, h75_, h74_, h76, h77, h78, h78_, h77_, h78z, h82, h83, h84, h84_, h83_, h85, h86, h87, h87_, h86_]
        repeat' apply And.intro
        any_goals (first | exact hG656 _ (by kernel_rfl) | refine hR656 _ _ _ ?_ | omega | (unfold maxLen; omega) | (simp [-List.reduceReplicate, sOf_set, ofI_set, allU8_set, h1, h2l, h2m, h2n, h3, h3_, h18, h18_, h53, h54, h54_, h55, h56, h57, h57_, h56_, h61, h62, h63, h63_, h62_, h64, h65, h66, h66_, h65_, h67, h68, h69, h69_, h68_, h70, h71, h72, h72_, h71_, h73, h74, h75, h75_, h74_, h76, h77, h78, h78_, h77_, h78z, h82, h83, h84, h84_, h83_, h85, h86, h87, h87_, h86_]; done) | (simp [-List.reduceReplicate, sOf_set, ofI_set, allU8_set, h1, h2l, h2m, h2n, h3, h3_, h18, h18_, h53, h54, h54_, h55, h56, h57, h57_, h56_, h61, h62, h63, h63_, h62_, h64, h65, h66, h66_, h65_, h67, h68, h69, h69_, h68_, h70, h71, h72, h72_, h71_, h73, h74, h75, h75_, h74_, h76, h77, h78, h78_, h77_, h78z, h82, h83, h84, h84_, h83_, h85, h86, h87, h87_, h86_]; omega))
        refine AW.wk [(0, AV.lst false false (List.map (AV.int .u32) v0)), (2, AV.lst false false (List.map (AV.int .u32) v2)), (7, AV.lst false true (List.map (AV.int .u32) v12)), (12, AV.lst false false (List.map (AV.int .u32) v22)), (13, AV.int .i64 v21), (14, AV.int .u32 (bitsV .xor .u32 (bitsV .xor .u32 v33 v34) v35)), (16, AV.int .u32 (IntKind.wrap .u32 (IntKind.wrap .u32 (IntKind.wrap .u32 (IntKind.wrap .u32 (v29 + bitsV .xor .u32 (bitsV .xor .u32 v24 v25) v26) + bitsV .xor .u32 (bitsV .and .u32 v23 v27) (bitsV .and .u32 (bitsV .xor .u32 (IntKind.max .u32) v23) v28)) + v30) + v31))), (17, AV.int .u32 (bitsV .xor .u32 (bitsV .xor .u32 (bitsV .and .u32 v32 v36) (bitsV .and .u32 v32 v37)) (bitsV .and .u32 v36 v37)))] [] 1 (by simp [-List.reduceReplicate, sOf_set, ofI_set, allU8_set, h1, h2l, h2m, h2n, h3, h3_, h18, h18_, h53, h54, h54_, h55, h56, h57, h57_, h56_, h61, h62, h63, h63_, h62_, h64, h65, h66, h66_, h65_, h67, h68, h69, h69_, h68_, h70, h71, h72, h72_, h71_, h73, h74, h75, h75_, h74_, h76, h77, h78, h78_, h77_, h78z, h82, h83, h84, h84_, h83_, h85, h86, h87, h87_, h86_]) (by simp [-List.reduceReplicate, sOf_set, ofI_set, allU8_set, h1, h2l, h2m, h2n, h3, h3_, h18, h18_, h53, h54, h54_, h55, h56, h57, h57_, h56_, h61, h62, h63, h63_, h62_, h64, h65, h66, h66_, h65_, h67, h68, h69, h69_, h68_, h70, h71, h72, h72_, h71_, h73, h74, h75, h75_, h74_, h76, h77, h78, h78_, h77_, h78z, h82, h83, h84, h84_, h83_, h85, h86, h87, h87_, h86_]) (by simp) ?_
        refine AW.region mixed [240] [none, none, none, none, none, none, none, none, none, none, none, none, none, none, none, none, none, none, none, none, none, none, none, none, none, none, none, none, none, none] (by kernel_rfl) fun G657 R657 hG657 hR657 => ?_
        obtain ⟨v38, h88, h89, h90, hF⟩ := idx_elim hF
        have h90_ := get_of h90
        try simp [-List.reduceReplicate] at h90_
        have h89_ := h89
        try simp [-List.reduceReplicate] at h89_
        try simp [-List.reduceReplicate, sOf_set, ofI_set, allU8_set, h1, h2l, h2m, h2n, h3, h3_, h18, h18_, h53, h54, h54_, h55, h56, h57, h57_, h56_, h61, h62, h63, h63_, h62_, h64, h65, h66, h66_, h65_, h67, h68, h69, h69_, h68_, h70, h71, h72, h72_, h71_, h73, h74, h75, h75_, h74_, h76, h77, h78, h78_, h77_, h78z, h82, h83, h84, h84_, h83_, h85, h86, h87, h87_, h86_, h88, h89, h90, h90_, h89_]
        repeat' apply And.intro
        any_goals (first | exact hG657 _ (by kernel_rfl) | refine hR657 _ _ _ ?_ | omega | (unfold maxLen; omega) | (simp [-List.reduceReplicate, sOf_set, ofI_set, allU8_set, h1, h2l, h2m, h2n, h3, h3_, h18, h18_, h53, h54, h54_, h55, h56, h57, h57_, h56_, h61, h62, h63, h63_, h62_, h64, h65, h66, h66_, h65_, h67, h68, h69, h69_, h68_, h70, h71, h72, h72_, h71_, h73, h74, h75, h75_, h74_, h76, h77, h78, h78_, h77_, h78z, h82, h83, h84, h84_, h83_, h85, h86, h87, h87_, h86_, h88, h89, h90, h90_, h89_]; done) | (simp [-List.reduceReplicate, sOf_set, ofI_set, allU8_set, h1, h2l, h2m, h2n, h3, h3_, h18, h18_, h53, h54, h54_, h55, h56, h57, h57_, h56_, h61, h62, h63, h63_, h62_, h64, h65, h66, h66_, h65_, h67, h68, h69, h69_, h68_, h70, h71, h72, h72_, h71_, h73, h74, h75, h75_, h74_, h76, h77, h78, h78_, h77_, h78z, h82, h83, h84, h84_, h83_, h85, h86, h87, h87_, h86_, h88, h89, h90, h90_, h89_]; omega))
        refine hK651 _ _ _ ?_
        refine AW.wk [(0, AV.lst false false (List.map (AV.int .u32) v0)), (2, AV.lst false false (List.map (AV.int .u32) v2)), (7, AV.lst false true (List.map (AV.int .u32) v12)), (12, AV.slc 1 0 1 (([IntKind.wrap .u32 (IntKind.wrap .u32 (IntKind.wrap .u32 (IntKind.wrap .u32 (IntKind.wrap .u32 (IntKind.wrap .u32 (v29 + bitsV .xor .u32 (bitsV .xor .u32 v24 v25) v26) + bitsV .xor .u32 (bitsV .and .u32 v23 v27) (bitsV .and .u32 (bitsV .xor .u32 (IntKind.max .u32) v23) v28)) + v30) + v31) + bitsV .xor .u32 (bitsV .xor .u32 v33 v34) v35) + bitsV .xor .u32 (bitsV .xor .u32 (bitsV .and .u32 v32 v36) (bitsV .and .u32 v32 v37)) (bitsV .and .u32 v36 v37)), v32, v36, v37, IntKind.wrap .u32 (v38 + IntKind.wrap .u32 (IntKind.wrap .u32 (IntKind.wrap .u32 (IntKind.wrap .u32 (v29 + bitsV .xor .u32 (bitsV .xor .u32 v24 v25) v26) + bitsV .xor .u32 (bitsV .and .u32 v23 v27) (bitsV .and .u32 (bitsV .xor .u32 (IntKind.max .u32) v23) v28)) + v30) + v31)), v23, v27, v28] : List Int).length) true), (13, AV.int .i64 v21)] [(1, .cells (List.map (AV.int .u32) ([IntKind.wrap .u32 (IntKind.wrap .u32 (IntKind.wrap .u32 (IntKind.wrap .u32 (IntKind.wrap .u32 (IntKind.wrap .u32 (v29 + bitsV .xor .u32 (bitsV .xor .u32 v24 v25) v26) + bitsV .xor .u32 (bitsV .and .u32 v23 v27) (bitsV .and .u32 (bitsV .xor .u32 (IntKind.max .u32) v23) v28)) + v30) + v31) + bitsV .xor .u32 (bitsV .xor .u32 v33 v34) v35) + bitsV .xor .u32 (bitsV .xor .u32 (bitsV .and .u32 v32 v36) (bitsV .and .u32 v32 v37)) (bitsV .and .u32 v36 v37)), v32, v36, v37, IntKind.wrap .u32 (v38 + IntKind.wrap .u32 (IntKind.wrap .u32 (IntKind.wrap .u32 (IntKind.wrap .u32 (v29 + bitsV .xor .u32 (bitsV .xor .u32 v24 v25) v26) + bitsV .xor .u32 (bitsV .and .u32 v23 v27) (bitsV .and .u32 (bitsV .xor .u32 (IntKind.max .u32) v23) v28)) + v30) + v31)), v23, v27, v28] : List Int)))] 2 (by simp [-List.reduceReplicate, sOf_set, ofI_set, allU8_set, h1, h2l, h2m, h2n, h3, h3_, h18, h18_, h53, h54, h54_, h55, h56, h57, h57_, h56_, h61, h62, h63, h63_, h62_, h64, h65, h66, h66_, h65_, h67, h68, h69, h69_, h68_, h70, h71, h72, h72_, h71_, h73, h74, h75, h75_, h74_, h76, h77, h78, h78_, h77_, h78z, h82, h83, h84, h84_, h83_, h85, h86, h87, h87_, h86_, h88, h89, h90, h90_, h89_]) (by simp [-List.reduceReplicate, sOf_set, ofI_set, allU8_set, h1, h2l, h2m, h2n, h3, h3_, h18, h18_, h53, h54, h54_, h55, h56, h57, h57_, h56_, h61, h62, h63, h63_, h62_, h64, h65, h66, h66_, h65_, h67, h68, h69, h69_, h68_, h70, h71, h72, h72_, h71_, h73, h74, h75, h75_, h74_, h76, h77, h78, h78_, h77_, h78z, h82, h83, h84, h84_, h83_, h85, h86, h87, h87_, h86_, h88, h89, h90, h90_, h89_]) (by simp) ?_
        refine AW.region mixed [] [none, none, none] (by kernel_rfl) fun G658 R658 hG658 hR658 => ?_
        try simp [-List.reduceReplicate, sOf_set, ofI_set, allU8_set, h1, h2l, h2m, h2n, h3, h3_, h18, h18_, h53, h54, h54_, h55, h56, h57, h57_, h56_, h61, h62, h63, h63_, h62_, h64, h65, h66, h66_, h65_, h67, h68, h69, h69_, h68_, h70, h71, h72, h72_, h71_, h73, h74, h75, h75_, h74_, h76, h77, h78, h78_, h77_, h78z, h82, h83, h84, h84_, h83_, h85, h86, h87, h87_, h86_, h88, h89, h90, h90_, h89_]
        repeat' apply And.intro
        any_goals (first | exact hG658 _ (by kernel_rfl) | refine hR658 _ _ _ ?_ | omega | (unfold maxLen; omega) | (simp [-List.reduceReplicate, sOf_set, ofI_set, allU8_set, h1, h2l, h2m, h2n, h3, h3_, h18, h18_, h53, h54, h54_, h55, h56, h57, h57_, h56_, h61, h62, h63, h63_, h62_, h64, h65, h66, h66_, h65_, h67, h68, h69, h69_, h68_, h70, h71, h72, h72_, h71_, h73, h74, h75, h75_, h74_, h76, h77, h78, h78_, h77_, h78z, h82, h83, h84, h84_, h83_, h85, h86, h87, h87_, h86_, h88, h89, h90, h90_, h89_]; done) | (simp [-List.reduceReplicate, sOf_set, ofI_set, allU8_set, h1, h2l, h2m, h2n, h3, h3_, h18, h18_, h53, h54, h54_, h55, h56, h57, h57_, h56_, h61, h62, h63, h63_, h62_, h64, h65, h66, h66_, h65_, h67, h68, h69, h69_, h68_, h70, h71, h72, h72_, h71_, h73, h74, h75, h75_, h74_, h76, h77, h78, h78_, h77_, h78z, h82, h83, h84, h84_, h83_, h85, h86, h87, h87_, h86_, h88, h89, h90, h90_, h89_]; omega))
        refine hK641 _ _ _ ?_
        refine Can.weak [(0, AV.lst false false (List.map (AV.int .u32) v0)), (2, AV.lst false false (List.map (AV.int .u32) v2)), (7, AV.lst false true (List.map (AV.int .u32) v12)), (12, AV.slc 1 0 1 (([IntKind.wrap .u32 (IntKind.wrap .u32 (IntKind.wrap .u32 (IntKind.wrap .u32 (IntKind.wrap .u32 (IntKind.wrap .u32 (v29 + bitsV .xor .u32 (bitsV .xor .u32 v24 v25) v26) + bitsV .xor .u32 (bitsV .and .u32 v23 v27) (bitsV .and .u32 (bitsV .xor .u32 (IntKind.max .u32) v23) v28)) + v30) + v31) + bitsV .xor .u32 (bitsV .xor .u32 v33 v34) v35) + bitsV .xor .u32 (bitsV .xor .u32 (bitsV .and .u32 v32 v36) (bitsV .and .u32 v32 v37)) (bitsV .and .u32 v36 v37)), v32, v36, v37, IntKind.wrap .u32 (v38 + IntKind.wrap .u32 (IntKind.wrap .u32 (IntKind.wrap .u32 (IntKind.wrap .u32 (v29 + bitsV .xor .u32 (bitsV .xor .u32 v24 v25) v26) + bitsV .xor .u32 (bitsV .and .u32 v23 v27) (bitsV .and .u32 (bitsV .xor .u32 (IntKind.max .u32) v23) v28)) + v30) + v31)), v23, v27, v28] : List Int).length) true), (13, AV.int .i64 (IntKind.wrap .i64 (v21 + 1)))] [(1, .cells (List.map (AV.int .u32) ([IntKind.wrap .u32 (IntKind.wrap .u32 (IntKind.wrap .u32 (IntKind.wrap .u32 (IntKind.wrap .u32 (IntKind.wrap .u32 (v29 + bitsV .xor .u32 (bitsV .xor .u32 v24 v25) v26) + bitsV .xor .u32 (bitsV .and .u32 v23 v27) (bitsV .and .u32 (bitsV .xor .u32 (IntKind.max .u32) v23) v28)) + v30) + v31) + bitsV .xor .u32 (bitsV .xor .u32 v33 v34) v35) + bitsV .xor .u32 (bitsV .xor .u32 (bitsV .and .u32 v32 v36) (bitsV .and .u32 v32 v37)) (bitsV .and .u32 v36 v37)), v32, v36, v37, IntKind.wrap .u32 (v38 + IntKind.wrap .u32 (IntKind.wrap .u32 (IntKind.wrap .u32 (IntKind.wrap .u32 (v29 + bitsV .xor .u32 (bitsV .xor .u32 v24 v25) v26) + bitsV .xor .u32 (bitsV .and .u32 v23 v27) (bitsV .and .u32 (bitsV .xor .u32 (IntKind.max .u32) v23) v28)) + v30) + v31)), v23, v27, v28] : List Int)))] 2 (by simp [-List.reduceReplicate, sOf_set, ofI_set, allU8_set, h1, h2l, h2m, h2n, h3, h3_, h18, h18_, h53, h54, h54_, h55, h56, h57, h57_, h56_, h61, h62, h63, h63_, h62_, h64, h65, h66, h66_, h65_, h67, h68, h69, h69_, h68_, h70, h71, h72, h72_, h71_, h73, h74, h75, h75_, h74_, h76, h77, h78, h78_, h77_, h78z, h82, h83, h84, h84_, h83_, h85, h86, h87, h87_, h86_, h88, h89, h90, h90_, h89_]) (by simp [-List.reduceReplicate, sOf_set, ofI_set, allU8_set, h1, h2l, h2m, h2n, h3, h3_, h18, h18_, h53, h54, h54_, h55, h56, h57, h57_, h56_, h61, h62, h63, h63_, h62_, h64, h65, h66, h66_, h65_, h67, h68, h69, h69_, h68_, h70, h71, h72, h72_, h71_, h73, h74, h75, h75_, h74_, h76, h77, h78, h78_, h77_, h78z, h82, h83, h84, h84_, h83_, h85, h86, h87, h87_, h86_, h88, h89, h90, h90_, h89_]) (by simp) ?_
        refine Can.ren (m := 0) h0 [(0, 1)] [(0, AV.lst false false (List.map (AV.int .u32) v0)), (2, AV.lst false false (List.map (AV.int .u32) v2)), (7, AV.lst false true (List.map (AV.int .u32) v12)), (12, AV.slc 0 0 1 (([IntKind.wrap .u32 (IntKind.wrap .u32 (IntKind.wrap .u32 (IntKind.wrap .u32 (IntKind.wrap .u32 (IntKind.wrap .u32 (v29 + bitsV .xor .u32 (bitsV .xor .u32 v24 v25) v26) + bitsV .xor .u32 (bitsV .and .u32 v23 v27) (bitsV .and .u32 (bitsV .xor .u32 (IntKind.max .u32) v23) v28)) + v30) + v31) + bitsV .xor .u32 (bitsV .xor .u32 v33 v34) v35) + bitsV .xor .u32 (bitsV .xor .u32 (bitsV .and .u32 v32 v36) (bitsV .and .u32 v32 v37)) (bitsV .and .u32 v36 v37)), v32, v36, v37, IntKind.wrap .u32 (v38 + IntKind.wrap .u32 (IntKind.wrap .u32 (IntKind.wrap .u32 (IntKind.wrap .u32 (v29 + bitsV .xor .u32 (bitsV .xor .u32 v24 v25) v26) + bitsV .xor .u32 (bitsV .and .u32 v23 v27) (bitsV .and .u32 (bitsV .xor .u32 (IntKind.max .u32) v23) v28)) + v30) + v31)), v23, v27, v28] : List Int).length) true), (13, AV.int .i64 (IntKind.wrap .i64 (v21 + 1)))] [(0, .cells (List.map (AV.int .u32) ([IntKind.wrap .u32 (IntKind.wrap .u32 (IntKind.wrap .u32 (IntKind.wrap .u32 (IntKind.wrap .u32 (IntKind.wrap .u32 (v29 + bitsV .xor .u32 (bitsV .xor .u32 v24 v25) v26) + bitsV .xor .u32 (bitsV .and .u32 v23 v27) (bitsV .and .u32 (bitsV .xor .u32 (IntKind.max .u32) v23) v28)) + v30) + v31) + bitsV .xor .u32 (bitsV .xor .u32 v33 v34) v35) + bitsV .xor .u32 (bitsV .xor .u32 (bitsV .and .u32 v32 v36) (bitsV .and .u32 v32 v37)) (bitsV .and .u32 v36 v37)), v32, v36, v37, IntKind.wrap .u32 (v38 + IntKind.wrap .u32 (IntKind.wrap .u32 (IntKind.wrap .u32 (IntKind.wrap .u32 (v29 + bitsV .xor .u32 (bitsV .xor .u32 v24 v25) v26) + bitsV .xor .u32 (bitsV .and .u32 v23 v27) (bitsV .and .u32 (bitsV .xor .u32 (IntKind.max .u32) v23) v28)) + v30) + v31)), v23, v27, v28] : List Int)))] 1 (by decide) (by decide) (by decide) rfl (by simp [-List.reduceReplicate, sOf_set, ofI_set, allU8_set, h1, h2l, h2m, h2n, h3, h3_, h18, h18_, h53, h54, h54_, h55, h56, h57, h57_, h56_, h61, h62, h63, h63_, h62_, h64, h65, h66, h66_, h65_, h67, h68, h69, h69_, h68_, h70, h71, h72, h72_, h71_, h73, h74, h75, h75_, h74_, h76, h77, h78, h78_, h77_, h78z, h82, h83, h84, h84_, h83_, h85, h86, h87, h87_, h86_, h88, h89, h90, h90_, h89_]) (by simp [-List.reduceReplicate, sOf_set, ofI_set, allU8_set, h1, h2l, h2m, h2n, h3, h3_, h18, h18_, h53, h54, h54_, h55, h56, h57, h57_, h56_, h61, h62, h63, h63_, h62_, h64, h65, h66, h66_, h65_, h67, h68, h69, h69_, h68_, h70, h71, h72, h72_, h71_, h73, h74, h75, h75_, h74_, h76, h77, h78, h78_, h77_, h78z, h82, h83, h84, h84_, h83_, h85, h86, h87, h87_, h86_, h88, h89, h90, h90_, h89_]) ?_
        refine Can.flg [(12, AV.slc 0 0 1 (([IntKind.wrap .u32 (IntKind.wrap .u32 (IntKind.wrap .u32 (IntKind.wrap .u32 (IntKind.wrap .u32 (IntKind.wrap .u32 (v29 + bitsV .xor .u32 (bitsV .xor .u32 v24 v25) v26) + bitsV .xor .u32 (bitsV .and .u32 v23 v27) (bitsV .and .u32 (bitsV .xor .u32 (IntKind.max .u32) v23) v28)) + v30) + v31) + bitsV .xor .u32 (bitsV .xor .u32 v33 v34) v35) + bitsV .xor .u32 (bitsV .xor .u32 (bitsV .and .u32 v32 v36) (bitsV .and .u32 v32 v37)) (bitsV .and .u32 v36 v37)), v32, v36, v37, IntKind.wrap .u32 (v38 + IntKind.wrap .u32 (IntKind.wrap .u32 (IntKind.wrap .u32 (IntKind.wrap .u32 (v29 + bitsV .xor .u32 (bitsV .xor .u32 v24 v25) v26) + bitsV .xor .u32 (bitsV .and .u32 v23 v27) (bitsV .and .u32 (bitsV .xor .u32 (IntKind.max .u32) v23) v28)) + v30) + v31)), v23, v27, v28] : List Int).length) false)] [(0, .grow (List.map (AV.int .u32) ([IntKind.wrap .u32 (IntKind.wrap .u32 (IntKind.wrap .u32 (IntKind.wrap .u32 (IntKind.wrap .u32 (IntKind.wrap .u32 (v29 + bitsV .xor .u32 (bitsV .xor .u32 v24 v25) v26) + bitsV .xor .u32 (bitsV .and .u32 v23 v27) (bitsV .and .u32 (bitsV .xor .u32 (IntKind.max .u32) v23) v28)) + v30) + v31) + bitsV .xor .u32 (bitsV .xor .u32 v33 v34) v35) + bitsV .xor .u32 (bitsV .xor .u32 (bitsV .and .u32 v32 v36) (bitsV .and .u32 v32 v37)) (bitsV .and .u32 v36 v37)), v32, v36, v37, IntKind.wrap .u32 (v38 + IntKind.wrap .u32 (IntKind.wrap .u32 (IntKind.wrap .u32 (IntKind.wrap .u32 (v29 + bitsV .xor .u32 (bitsV .xor .u32 v24 v25) v26) + bitsV .xor .u32 (bitsV .and .u32 v23 v27) (bitsV .and .u32 (bitsV .xor .u32 (IntKind.max .u32) v23) v28)) + v30) + v31)), v23, v27, v28] : List Int)))] ⟨.slc, trivial⟩ ⟨⟨AObj.cells (List.map (AV.int .u32) ([IntKind.wrap .u32 (IntKind.wrap .u32 (IntKind.wrap .u32 (IntKind.wrap .u32 (IntKind.wrap .u32 (IntKind.wrap .u32 (v29 + bitsV .xor .u32 (bitsV .xor .u32 v24 v25) v26) + bitsV .xor .u32 (bitsV .and .u32 v23 v27) (bitsV .and .u32 (bitsV .xor .u32 (IntKind.max .u32) v23) v28)) + v30) + v31) + bitsV .xor .u32 (bitsV .xor .u32 v33 v34) v35) + bitsV .xor .u32 (bitsV .xor .u32 (bitsV .and .u32 v32 v36) (bitsV .and .u32 v32 v37)) (bitsV .and .u32 v36 v37)), v32, v36, v37, IntKind.wrap .u32 (v38 + IntKind.wrap .u32 (IntKind.wrap .u32 (IntKind.wrap .u32 (IntKind.wrap .u32 (v29 + bitsV .xor .u32 (bitsV .xor .u32 v24 v25) v26) + bitsV .xor .u32 (bitsV .and .u32 v23 v27) (bitsV .and .u32 (bitsV .xor .u32 (IntKind.max .u32) v23) v28)) + v30) + v31)), v23, v27, v28] : List Int)), by simp [-List.reduceReplicate, sOf_set, ofI_set, allU8_set, h1, h2l, h2m, h2n, h3, h3_, h18, h18_, h53, h54, h54_, h55, h56, h57, h57_, h56_, h61, h62, h63, h63_, h62_, h64, h65, h66, h66_, h65_, h67, h68, h69, h69_, h68_, h70, h71, h72, h72_, h71_, h73, h74, h75, h75_, h74_, h76, h77, h78, h78_, h77_, h78z, h82, h83, h84, h84_, h83_, h85, h86, h87, h87_, h86_, h88, h89, h90, h90_, h89_], (.gr (by simp [-List.reduceReplicate, sOf_set, ofI_set, allU8_set, h1, h2l, h2m, h2n, h3, h3_, h18, h18_, h53, h54, h54_, h55, h56, h57, h57_, h56_, h61, h62, h63, h63_, h62_, h64, h65, h66, h66_, h65_, h67, h68, h69, h69_, h68_, h70, h71, h72, h72_, h71_, h73, h74, h75, h75_, h74_, h76, h77, h78, h78_, h77_, h78z, h82, h83, h84, h84_, h83_, h85, h86, h87, h87_, h86_, h88, h89, h90, h90_, h89_]))⟩, trivial⟩ (by simp) ?_
        exact Can.next (k' := n3) ((IntKind.wrap .i64 (v21 + 1), ([IntKind.wrap .u32 (IntKind.wrap .u32 (IntKind.wrap .u32 (IntKind.wrap .u32 (IntKind.wrap .u32 (IntKind.wrap .u32 (v29 + bitsV .xor .u32 (bitsV .xor .u32 v24 v25) v26) + bitsV .xor .u32 (bitsV .and .u32 v23 v27) (bitsV .and .u32 (bitsV .xor .u32 (IntKind.max .u32) v23) v28)) + v30) + v31) + bitsV .xor .u32 (bitsV .xor .u32 v33 v34) v35) + bitsV .xor .u32 (bitsV .xor .u32 (bitsV .and .u32 v32 v36) (bitsV .and .u32 v32 v37)) (bitsV .and .u32 v36 v37)), v32, v36, v37, IntKind.wrap .u32 (v38 + IntKind.wrap .u32 (IntKind.wrap .u32 (IntKind.wrap .u32 (IntKind.wrap .u32 (v29 + bitsV .xor .u32 (bitsV .xor .u32 v24 v25) v26) + bitsV .xor .u32 (bitsV .and .u32 v23 v27) (bitsV .and .u32 (bitsV .xor .u32 (IntKind.max .u32) v23) v28)) + v30) + v31)), v23, v27, v28] : List Int))) (by omega) hF (by simp [-List.reduceReplicate, sOf_set, ofI_set, allU8_set, h1, h2l, h2m, h2n, h3, h3_, h18, h18_, h53, h54, h54_, h55, h56, h57, h57_, h56_, h61, h62, h63, h63_, h62_, h64, h65, h66, h66_, h65_, h67, h68, h69, h69_, h68_, h70, h71, h72, h72_, h71_, h73, h74, h75, h75_, h74_, h76, h77, h78, h78_, h77_, h78z, h82, h83, h84, h84_, h83_, h85, h86, h87, h87_, h86_, h88, h89, h90, h90_, h89_]) (by simp [-List.reduceReplicate, sOf_set, ofI_set, allU8_set, h1, h2l, h2m, h2n, h3, h3_, h18, h18_, h53, h54, h54_, h55, h56, h57, h57_, h56_, h61, h62, h63, h63_, h62_, h64, h65, h66, h66_, h65_, h67, h68, h69, h69_, h68_, h70, h71, h72, h72_, h71_, h73, h74, h75, h75_, h74_, h76, h77, h78, h78_, h77_, h78z, h82, h83, h84, h84_, h83_, h85, h86, h87, h87_, h86_, h88, h89, h90, h90_, h89_]) (by simp)
      · replace hF := ite_f h54 hF
        have h54_ := h54
        try simp [-List.reduceReplicate] at h54_
        refine AW.condF (by decide) (by first | (simp [-List.reduceReplicate, sOf_set, ofI_set, allU8_set, h1, h2l, h2m, h2n, h3, h3_, h18, h18_, h53, h54, h54_]; done) | (simp [-List.reduceReplicate, sOf_set, ofI_set, allU8_set, h1, h2l, h2m, h2n, h3, h3_, h18, h18_, h53, h54, h54_]; omega)) ?_
        refine AW.exit ?_
        try simp [-List.reduceReplicate]
        refine hK588 _ _ _ ?_
        refine AW.seq fun K689 hK689 => ?_
        refine AW.seqR mixed [] [none] (by kernel_rfl) fun G690 R690 hG690 hR690 => ?_
        try simp [-List.reduceReplicate, sOf_set, ofI_set, allU8_set, h1, h2l, h2m, h2n, h3, h3_, h18, h18_, h53, h54, h54_]
        repeat' apply And.intro
        any_goals (first | exact hG690 _ (by kernel_rfl) | refine hR690 _ _ _ ?_ | omega | (unfold maxLen; omega) | (simp [-List.reduceReplicate, sOf_set, ofI_set, allU8_set, h1, h2l, h2m, h2n, h3, h3_, h18, h18_, h53, h54, h54_]; done) | (simp [-List.reduceReplicate, sOf_set, ofI_set, allU8_set, h1, h2l, h2m, h2n, h3, h3_, h18, h18_, h53, h54, h54_]; omega))
        refine AW.wk [(0, AV.lst false false (List.map (AV.int .u32) v0)), (12, AV.slc 0 0 1 v22.length false), (18, AV.int .i64 0)] [(0, .grow (List.map (AV.int .u32) v22))] 1 (by simp [-List.reduceReplicate, sOf_set, ofI_set, allU8_set, h1, h2l, h2m, h2n, h3, h3_, h18, h18_, h53, h54, h54_]) (by simp [-List.reduceReplicate, sOf_set, ofI_set, allU8_set, h1, h2l, h2m, h2n, h3, h3_, h18, h18_, h53, h54, h54_]) (by simp) ?_
        refine AW.block ?_
        refine AW.loopF (α := (Int × (List Int))) (fun n (v39, v40) => ref01_block.L4 k v0 n v39 v40 = some v3) (fun (v39, v40) => [(0, AV.lst false false (List.map (AV.int .u32) v0)), (12, AV.slc 0 0 1 v40.length false), (18, AV.int .i64 v39)]) (fun (v39, v40) => [(0, .grow (List.map (AV.int .u32) v40))]) 1 k ((0, v22)) hF (by simp [-List.reduceReplicate, sOf_set, ofI_set, allU8_set, h1, h2l, h2m, h2n, h3, h3_, h18, h18_, h53, h54, h54_]) (by simp [-List.reduceReplicate, sOf_set, ofI_set, allU8_set, h1, h2l, h2m, h2n, h3, h3_, h18, h18_, h53, h54, h54_]) (by simp) ?_
        rintro (_|n4) ⟨v39, v40⟩ hF K712 hK712
        · try dsimp only at hF
          rw [ref01_block.L4] at hF; cases hF
        try dsimp only at hF
        rw [ref01_block.L4] at hF
        refine AW.seq fun K714 hK714 => ?_
        refine AW.seqR mixed [] [none, none] (by kernel_rfl) fun G715 R715 hG715 hR715 => ?_
        try simp [-List.reduceReplicate, sOf_set, ofI_set, allU8_set, h1, h2l, h2m, h2n, h3, h3_, h18, h18_, h53, h54, h54_]
        repeat' apply And.intro
        any_goals (first | exact hG715 _ (by kernel_rfl) | refine hR715 _ _ _ ?_ | omega | (unfold maxLen; omega) | (simp [-List.reduceReplicate, sOf_set, ofI_set, allU8_set, h1, h2l, h2m, h2n, h3, h3_, h18, h18_, h53, h54, h54_]; done) | (simp [-List.reduceReplicate, sOf_set, ofI_set, allU8_set, h1, h2l, h2m, h2n, h3, h3_, h18, h18_, h53, h54, h54_]; omega))
        refine AW.wk [(0, AV.lst false false (List.map (AV.int .u32) v0)), (12, AV.slc 0 0 1 v40.length false), (18, AV.int .i64 v39), (242, AV.bool (decide (v39 < 8)))] [(0, .grow (List.map (AV.int .u32) v40))] 1 (by simp [-List.reduceReplicate, sOf_set, ofI_set, allU8_set, h1, h2l, h2m, h2n, h3, h3_, h18, h18_, h53, h54, h54_]) (by simp [-List.reduceReplicate, sOf_set, ofI_set, allU8_set, h1, h2l, h2m, h2n, h3, h3_, h18, h18_, h53, h54, h54_]) (by simp) ?_
        by_cases h91 : v39 < 8
        · replace hF := ite_t h91 hF
          have h91_ := h91
          try simp [-List.reduceReplicate] at h91_
          refine AW.condT (by decide) (by first | (simp [-List.reduceReplicate, sOf_set, ofI_set, allU8_set, h1, h2l, h2m, h2n, h3, h3_, h18, h18_, h53, h54, h54_, h91, h91_]; done) | (simp [-List.reduceReplicate, sOf_set, ofI_set, allU8_set, h1, h2l, h2m, h2n, h3, h3_, h18, h18_, h53, h54, h54_, h91, h91_]; omega)) ?_
          refine AW.skip ?_
          refine hK714 _ _ _ ?_
          refine AW.seq fun K717 hK717 => ?_
          refine AW.block ?_
          refine AW.region mixed [] [none, none, none, none, none, none, none, none, none, none, none] (by kernel_rfl) fun G718 R718 hG718 hR718 => ?_
          obtain ⟨⟨h92, h93⟩, hF⟩ := chk_elim hF
          have h93_ := ne_of_lt h93
          obtain ⟨v41, h94, h95, h96, hF⟩ := idx_elim hF
          have h96_ := get_of h96
          try simp [-List.reduceReplicate] at h96_
          have h95_ := h95
          try simp [-List.reduceReplicate] at h95_
          obtain ⟨v42, h97, h98, h99, hF⟩ := idx_elim hF
          have h99_ := get_of h99
          try simp [-List.reduceReplicate] at h99_
          have h98_ := h98
          try simp [-List.reduceReplicate] at h98_
          obtain ⟨⟨h100, h101⟩, hF⟩ := chk_elim hF
          have h101_ := ne_of_lt h101
          try simp [-List.reduceReplicate, sOf_set, ofI_set, allU8_set, h1, h2l, h2m, h2n, h3, h3_, h18, h18_, h53, h54, h54_, h91, h91_, h92, h93, h93_, h94, h95, h96, h96_, h95_, h97, h98, h99, h99_, h98_, h100, h101, h101_]
          repeat' apply And.intro
          any_goals (first | exact hG718 _ (by kernel_rfl) | refine hR718 _ _ _ ?_ | omega | (unfold maxLen; omega) | (simp [-List.reduceReplicate, sOf_set, ofI_set, allU8_set, h1, h2l, h2m, h2n, h3, h3_, h18, h18_, h53, h54, h54_, h91, h91_, h92, h93, h93_, h94, h95, h96, h96_, h95_, h97, h98, h99, h99_, h98_, h100, h101, h101_]; done) | (simp [-List.reduceReplicate, sOf_set, ofI_set, allU8_set, h1, h2l, h2m, h2n, h3, h3_, h18, h18_, h53, h54, h54_, h91, h91_, h92, h93, h93_, h94, h95, h96, h96_, h95_, h97, h98, h99, h99_, h98_, h100, h101, h101_]; omega))
          refine hK717 _ _ _ ?_
          refine AW.wk [(0, AV.lst false false (List.map (AV.int .u32) v0)), (12, AV.slc 0 0 1 ((v40.set (v39).toNat (IntKind.wrap .u32 (v41 + v42))).length) false), (18, AV.int .i64 v39)] [(0, .grow (List.map (AV.int .u32) (v40.set (v39).toNat (IntKind.wrap .u32 (v41 + v42)))))] 1 (by simp [-List.reduceReplicate, sOf_set, ofI_set, allU8_set, h1, h2l, h2m, h2n, h3, h3_, h18, h18_, h53, h54, h54_, h91, h91_, h92, h93, h93_, h94, h95, h96, h96_, h95_, h97, h98, h99, h99_, h98_, h100, h101, h101_]) (by simp [-List.reduceReplicate, sOf_set, ofI_set, allU8_set, h1, h2l, h2m, h2n, h3, h3_, h18, h18_, h53, h54, h54_, h91, h91_, h92, h93, h93_, h94, h95, h96, h96_, h95_, h97, h98, h99, h99_, h98_, h100, h101, h101_]) (by simp) ?_
          refine AW.region mixed [] [none, none, none] (by kernel_rfl) fun G719 R719 hG719 hR719 => ?_
          try simp [-List.reduceReplicate, sOf_set, ofI_set, allU8_set, h1, h2l, h2m, h2n, h3, h3_, h18, h18_, h53, h54, h54_, h91, h91_, h92, h93, h93_, h94, h95, h96, h96_, h95_, h97, h98, h99, h99_, h98_, h100, h101, h101_]
          repeat' apply And.intro
          any_goals (first | exact hG719 _ (by kernel_rfl) | refine hR719 _ _ _ ?_ | omega | (unfold maxLen; omega) | (simp [-List.reduceReplicate, sOf_set, ofI_set, allU8_set, h1, h2l, h2m, h2n, h3, h3_, h18, h18_, h53, h54, h54_, h91, h91_, h92, h93, h93_, h94, h95, h96, h96_, h95_, h97, h98, h99, h99_, h98_, h100, h101, h101_]; done) | (simp [-List.reduceReplicate, sOf_set, ofI_set, allU8_set, h1, h2l, h2m, h2n, h3, h3_, h18, h18_, h53, h54, h54_, h91, h91_, h92, h93, h93_, h94, h95, h96, h96_, h95_, h97, h98, h99, h99_, h98_, h100, h101, h101_]; omega))
          refine hK712 _ _ _ ?_
          refine Can.weak [(0, AV.lst false false (List.map (AV.int .u32) v0)), (12, AV.slc 0 0 1 ((v40.set (v39).toNat (IntKind.wrap .u32 (v41 + v42))).length) false), (18, AV.int .i64 (IntKind.wrap .i64 (v39 + 1)))] [(0, .grow (List.map (AV.int .u32) (v40.set (v39).toNat (IntKind.wrap .u32 (v41 + v42)))))] 1 (by simp [-List.reduceReplicate, sOf_set, ofI_set, allU8_set, h1, h2l, h2m, h2n, h3, h3_, h18, h18_, h53, h54, h54_, h91, h91_, h92, h93, h93_, h94, h95, h96, h96_, h95_, h97, h98, h99, h99_, h98_, h100, h101, h101_]) (by simp [-List.reduceReplicate, sOf_set, ofI_set, allU8_set, h1, h2l, h2m, h2n, h3, h3_, h18, h18_, h53, h54, h54_, h91, h91_, h92, h93, h93_, h94, h95, h96, h96_, h95_, h97, h98, h99, h99_, h98_, h100, h101, h101_]) (by simp) ?_
          exact Can.next (k' := n4) ((IntKind.wrap .i64 (v39 + 1), v40.set (v39).toNat (IntKind.wrap .u32 (v41 + v42)))) (by omega) hF (by simp [-List.reduceReplicate, sOf_set, ofI_set, allU8_set, h1, h2l, h2m, h2n, h3, h3_, h18, h18_, h53, h54, h54_, h91, h91_, h92, h93, h93_, h94, h95, h96, h96_, h95_, h97, h98, h99, h99_, h98_, h100, h101, h101_]) (by simp [-List.reduceReplicate, sOf_set, ofI_set, allU8_set, h1, h2l, h2m, h2n, h3, h3_, h18, h18_, h53, h54, h54_, h91, h91_, h92, h93, h93_, h94, h95, h96, h96_, h95_, h97, h98, h99, h99_, h98_, h100, h101, h101_]) (by simp)
        · replace hF := ite_f h91 hF
          have h91_ := h91
          try simp [-List.reduceReplicate] at h91_
          refine AW.condF (by decide) (by first | (simp [-List.reduceReplicate, sOf_set, ofI_set, allU8_set, h1, h2l, h2m, h2n, h3, h3_, h18, h18_, h53, h54, h54_, h91, h91_]; done) | (simp [-List.reduceReplicate, sOf_set, ofI_set, allU8_set, h1, h2l, h2m, h2n, h3, h3_, h18, h18_, h53, h54, h54_, h91, h91_]; omega)) ?_
          refine AW.exit ?_
          try simp [-List.reduceReplicate]
          refine hK689 _ _ _ ?_
          refine AW.seqR mixed [] [none, none] (by kernel_rfl) fun G720 R720 hG720 hR720 => ?_
          try simp [-List.reduceReplicate, sOf_set, ofI_set, allU8_set, h1, h2l, h2m, h2n, h3, h3_, h18, h18_, h53, h54, h54_, h91, h91_]
          repeat' apply And.intro
          any_goals (first | exact hG720 _ (by kernel_rfl) | refine hR720 _ _ _ ?_ | omega | (unfold maxLen; omega) | (simp [-List.reduceReplicate, sOf_set, ofI_set, allU8_set, h1, h2l, h2m, h2n, h3, h3_, h18, h18_, h53, h54, h54_, h91, h91_]; done) | (simp [-List.reduceReplicate, sOf_set, ofI_set, allU8_set, h1, h2l, h2m, h2n, h3, h3_, h18, h18_, h53, h54, h54_, h91, h91_]; omega))
          refine AW.wk [(6, AV.slc 0 0 1 v40.length false)] [(0, .grow (List.map (AV.int .u32) v40))] 1 (by simp [-List.reduceReplicate, sOf_set, ofI_set, allU8_set, h1, h2l, h2m, h2n, h3, h3_, h18, h18_, h53, h54, h54_, h91, h91_]) (by simp [-List.reduceReplicate, sOf_set, ofI_set, allU8_set, h1, h2l, h2m, h2n, h3, h3_, h18, h18_, h53, h54, h54_, h91, h91_]) (by simp) ?_
          simp only [Option.some.injEq] at hF
          subst hF
          refine AW.ret (hQ _ _ _ ?_ (matchO_0 ?_)).1
          · simp [Try.f61, h1, h2l, h2m, h2n, h3, h3_, h18, h18_, h53, h54, h54_, h91, h91_]
          · simp [h1, h2l, h2m, h2n, h3, h3_, h18, h18_, h53, h54, h54_, h91, h91_]
end Go.TF
