/- Walks: the Go text computes the Lean functions (printed by a program of our own). -/
import Derived.Test.YtepdfenlkeaefaaEPu
import Derived.Test.YtepdfenlkeaefaaEAbsT
import Derived.Test.YtepdfenlkeaefaaEWa0
set_option linter.unusedVariables false
set_option linter.unusedSimpArgs false
set_option maxRecDepth 100000
namespace Go.TF
open Go Go.Abs Go.Proofs Go.Proofs.YtepdfenlkeaefaaET
set_option maxHeartbeats 4000000 in
theorem w_digest_rounds (k : Nat) (v0 : (List Int)) (hF : digest_rounds k = some v0) :
    FCall Try.prog 58 [] [] (AV.agg (List.map (AV.int .u32) v0)) [] := by
  unfold digest_rounds at hF
  refine FCall.enter Try.func58 rfl (by simp) (by decide) (by simp) (by simp) (by simp) (by simp) (by simp) ?_
  intro c0 w0 Q h0 hQ
  refine AW.wk [] [] 0 (by simp) (by simp) (by simp) ?_
  refine AW.seqR mixed [] [none] (by kernel_rfl) fun G3 R3 hG3 hR3 => ?_
  try simp
  repeat' apply And.intro
  any_goals (first | exact hG3 _ (by kernel_rfl) | refine hR3 _ _ _ ?_ | omega | (unfold maxLen; omega) | (simp; done) | (simp; omega))
  refine AW.wk [(0, AV.ptr 0 0)] [(0, .cells (List.map (AV.int .u32) (List.replicate 64 0)))] 1 (by simp) (by simp) (by simp) ?_
  refine AW.seqR mixed [] [none, none] (by kernel_rfl) fun G4 R4 hG4 hR4 => ?_
  obtain ⟨h1, hF⟩ := chk_elim hF
  try simp [h1]
  repeat' apply And.intro
  any_goals (first | exact hG4 _ (by kernel_rfl) | refine hR4 _ _ _ ?_ | omega | (unfold maxLen; omega) | (simp [h1]; done) | (simp [h1]; omega))
  refine AW.wk [(0, AV.ptr 0 0)] [(0, .cells (List.map (AV.int .u32) ([1116352408, 1899447441, 3049323471, 3921009573, 961987163, 1508970993, 2453635748, 2870763221, 3624381080, 310598401, 607225278, 1426881987, 1925078388, 2162078206, 2614888103, 3248222580, 3835390401, 4022224774, 264347078, 604807628, 770255983, 1249150122, 1555081692, 1996064986, 2554220882, 2821834349, 2952996808, 3210313671, 3336571891, 3584528711, 113926993, 338241895, 666307205, 773529912, 1294757372, 1396182291, 1695183700, 1986661051, 2177026350, 2456956037, 2730485921, 2820302411, 3259730800, 3345764771, 3516065817, 3600352804, 4094571909, 275423344, 430227734, 506948616, 659060556, 883997877, 958139571, 1322822218, 1537002063, 1747873779, 1955562222, 2024104815, 2227730452, 2361852424, 2428436474, 2756734187, 3204031479, 3329325298] : List Int)))] 1 (by simp [h1]) (by simp [h1]) (by simp) ?_
  obtain ⟨h2, hF⟩ := chk_elim hF
  have h2_ := ne_of_len h2 (by decide)
  simp only [Option.some.injEq] at hF
  subst hF
  refine AW.ret (hQ _ _ _ ?_ (matchO_0 ?_)).1
  · simp [Try.f58, h1, h2, h2_]
  · simp [h1, h2, h2_]
set_option maxHeartbeats 4000000 in
theorem w_math_bits_RotateLeft32 (k : Nat) (v0 : Int) (v1 : Int) (v2 : Int) (hF : math_bits_RotateLeft32 k v0 v1 = some v2) :
    FCall Try.prog 94 [AV.int .u32 v0, AV.int .i64 v1] [] (AV.int .u32 v2) [] := by
  unfold math_bits_RotateLeft32 at hF
  refine FCall.enter Try.func94 rfl (by simp) (by decide) (by simp) (by simp) (by simp) (by simp) (by simp) ?_
  intro c0 w0 Q h0 hQ
  refine AW.wk [(0, AV.int .u32 v0), (1, AV.int .i64 v1)] [] 0 (by simp) (by simp) (by simp) ?_
  refine AW.seqR mixed [] [none] (by kernel_rfl) fun G4 R4 hG4 hR4 => ?_
  try simp
  repeat' apply And.intro
  any_goals (first | exact hG4 _ (by kernel_rfl) | refine hR4 _ _ _ ?_ | omega | (unfold maxLen; omega) | (simp; done) | (simp; omega))
  refine AW.wk [(0, AV.int .u32 v0), (1, AV.int .i64 v1)] [] 0 (by simp) (by simp) (by simp) ?_
  refine AW.seqR mixed [] [none, none, none, none] (by kernel_rfl) fun G5 R5 hG5 hR5 => ?_
  try simp
  repeat' apply And.intro
  any_goals (first | exact hG5 _ (by kernel_rfl) | refine hR5 _ _ _ ?_ | omega | (unfold maxLen; omega) | (simp; done) | (simp; omega))
  refine AW.wk [(0, AV.int .u32 v0), (5, AV.int .u64 (bitsV .and .u64 (IntKind.wrap .u64 v1) 31))] [] 0 (by simp) (by simp) (by simp) ?_
  refine AW.seqR mixed [] [none, none, none, none, none, none, none, none, none] (by kernel_rfl) fun G6 R6 hG6 hR6 => ?_
  obtain ⟨h1, hF⟩ := chk_elim hF
  obtain ⟨h2, hF⟩ := chk_elim hF
  try simp [h1, h2]
  repeat' apply And.intro
  any_goals (first | exact hG6 _ (by kernel_rfl) | refine hR6 _ _ _ ?_ | omega | (unfold maxLen; omega) | (simp [h1, h2]; done) | (simp [h1, h2]; omega))
  refine AW.wk [(4, AV.int .u32 (bitsV .or .u32 (IntKind.wrap .u32 (v0 * 2 ^ (min ((bitsV .and .u64 (IntKind.wrap .u64 v1) 31).toNat) 32))) (Int.fdiv v0 (2 ^ (min ((IntKind.wrap .u64 (32 - bitsV .and .u64 (IntKind.wrap .u64 v1) 31)).toNat) 32)))))] [] 0 (by simp [h1, h2]) (by simp [h1, h2]) (by simp) ?_
  simp only [Option.some.injEq] at hF
  subst hF
  refine AW.ret (hQ _ _ _ ?_ (matchO_0 ?_)).1
  · simp [Try.f94, h1, h2]
  · simp [h1, h2]
set_option maxHeartbeats 4000000 in
theorem w_digest_state_block_1 (k : Nat) (v0 : Int) (v1 : Int) (v2 : Int) (hF : digest_state_block_1 k v0 v1 = some v2) :
    FCall Try.prog 93 [AV.int .u32 v0, AV.int .i64 v1] [] (AV.int .u32 v2) [] := by
  unfold digest_state_block_1 at hF
  refine FCall.enter Try.func93 rfl (by simp) (by decide) (by simp) (by simp) (by simp) (by simp) (by simp) ?_
  intro c0 w0 Q h0 hQ
  refine AW.wk [(0, AV.int .u32 v0), (1, AV.int .i64 v1)] [] 0 (by simp) (by simp) (by simp) ?_
  refine AW.seqR mixed [] [none] (by kernel_rfl) fun G3 R3 hG3 hR3 => ?_
  try simp
  repeat' apply And.intro
  any_goals (first | exact hG3 _ (by kernel_rfl) | refine hR3 _ _ _ ?_ | omega | (unfold maxLen; omega) | (simp; done) | (simp; omega))
  refine AW.wk [(0, AV.int .u32 v0), (1, AV.int .i64 v1)] [] 0 (by simp) (by simp) (by simp) ?_
  refine AW.seqR mixed [] [none, none, none, none, none] (by kernel_rfl) fun G4 R4 hG4 hR4 => ?_
  try simp
  repeat' apply And.intro
  try any_goals (first | omega | (unfold maxLen; omega) | (simp; done))
  obtain ⟨v3, h1, hF⟩ := bnd1_elim hF
  refine aCall_l (w_math_bits_RotateLeft32 k _ _ _ h1) (by simp) [] [] [] rfl (.cons (.same (by simp)) (.cons (.same (by simp)) .nil)) (by simp) (by decide) (by simp) (by simp) (.inl rfl) (by simp) (by simp) ?_
  try simp
  repeat' apply And.intro
  any_goals (first | exact hG4 _ (by kernel_rfl) | refine hR4 _ _ _ ?_ | omega | (unfold maxLen; omega) | (simp; done) | (simp; omega))
  refine AW.wk [(4, AV.int .u32 v3)] [] 0 (by simp) (by simp) (by simp) ?_
  simp only [Option.some.injEq] at hF
  subst hF
  refine AW.ret (hQ _ _ _ ?_ (matchO_0 ?_)).1
  · simp [Try.f93]
  · simp
set_option maxHeartbeats 4000000 in
theorem w_digest_state_block (k : Nat) (v0 : (List Int)) (v1 : (List Int)) (v2 : (List Int)) (v3 : (List Int)) (hF : digest_state_block k v0 v1 v2 = some v3) :
    FCall Try.prog 59 [AV.ptr 0 0, AV.lst false false (List.map (AV.int .u8) v1), AV.ptr 1 0] [.cells (List.map (AV.int .u32) v0), .cells (List.map (AV.int .u32) v2)] (AV.tup []) [some (.cells (List.map (AV.int .u32) v3)), some (.cells (List.map (AV.int .u32) v2))] := by
  unfold digest_state_block at hF
  refine FCall.enter Try.func59 rfl (by simp) (by decide) (by simp) (by simp) (by simp) (by simp) (by simp) ?_
  intro c0 w0 Q h0 hQ
  refine AW.wk [(0, AV.ptr 0 0), (1, AV.lst false false (List.map (AV.int .u8) v1)), (2, AV.ptr 1 0)] [(0, .cells (List.map (AV.int .u32) v0)), (1, .cells (List.map (AV.int .u32) v2))] 2 (by simp) (by simp) (by simp) ?_
  refine AW.seqR mixed [] [none] (by kernel_rfl) fun G301 R301 hG301 hR301 => ?_
  try simp
  repeat' apply And.intro
  any_goals (first | exact hG301 _ (by kernel_rfl) | refine hR301 _ _ _ ?_ | omega | (unfold maxLen; omega) | (simp; done) | (simp; omega))
  refine AW.wk [(0, AV.ptr 0 0), (1, AV.lst false false (List.map (AV.int .u8) v1)), (2, AV.ptr 1 0), (6, AV.ptr 2 0)] [(0, .cells (List.map (AV.int .u32) v0)), (1, .cells (List.map (AV.int .u32) v2)), (2, .cells (List.map (AV.int .u32) (List.replicate 64 0)))] 3 (by simp) (by simp) (by simp) ?_
  refine AW.seq fun K336 hK336 => ?_
  refine AW.seqR mixed [] [none] (by kernel_rfl) fun G337 R337 hG337 hR337 => ?_
  try simp
  repeat' apply And.intro
  any_goals (first | exact hG337 _ (by kernel_rfl) | refine hR337 _ _ _ ?_ | omega | (unfold maxLen; omega) | (simp; done) | (simp; omega))
  refine AW.wk [(0, AV.ptr 0 0), (1, AV.lst false false (List.map (AV.int .u8) v1)), (2, AV.ptr 1 0), (6, AV.ptr 2 0), (19, AV.int .i64 0)] [(0, .cells (List.map (AV.int .u32) v0)), (1, .cells (List.map (AV.int .u32) v2)), (2, .cells (List.map (AV.int .u32) (List.replicate 64 0)))] 3 (by simp) (by simp) (by simp) ?_
  refine AW.block ?_
  refine AW.loopF (α := (Int × (List Int))) (fun n (v4, v5) => digest_state_block.L1 k v0 v1 v2 n v4 v5 = some v3) (fun (v4, v5) => [(0, AV.ptr 0 0), (1, AV.lst false false (List.map (AV.int .u8) v1)), (2, AV.ptr 1 0), (6, AV.ptr 2 0), (19, AV.int .i64 v4)]) (fun (v4, v5) => [(0, .cells (List.map (AV.int .u32) v0)), (1, .cells (List.map (AV.int .u32) v2)), (2, .cells (List.map (AV.int .u32) v5))]) 3 k ((0, (List.replicate 64 0))) hF (by simp) (by simp) (by simp) ?_
  rintro (_|n1) ⟨v4, v5⟩ hF K362 hK362
  · try dsimp only at hF
    rw [digest_state_block.L1] at hF; cases hF
  try dsimp only at hF
  rw [digest_state_block.L1] at hF
  refine AW.seqR mixed [] [none] (by kernel_rfl) fun G363 R363 hG363 hR363 => ?_
  try simp
  repeat' apply And.intro
  any_goals (first | exact hG363 _ (by kernel_rfl) | refine hR363 _ _ _ ?_ | omega | (unfold maxLen; omega) | (simp; done) | (simp; omega))
  refine AW.wk [(0, AV.ptr 0 0), (1, AV.lst false false (List.map (AV.int .u8) v1)), (2, AV.ptr 1 0), (6, AV.ptr 2 0), (19, AV.int .i64 v4), (20, AV.bool (decide (v4 < 16)))] [(0, .cells (List.map (AV.int .u32) v0)), (1, .cells (List.map (AV.int .u32) v2)), (2, .cells (List.map (AV.int .u32) v5))] 3 (by simp) (by simp) (by simp) ?_
  refine AW.seq fun K364 hK364 => ?_
  by_cases h1 : v4 < 16
  · replace hF := ite_t h1 hF
    have h1_ := h1
    try simp at h1_
    refine AW.condT (by decide) (by first | (simp [h1, h1_]; done) | (simp [h1, h1_]; omega)) ?_
    refine AW.skip ?_
    refine hK364 _ _ _ ?_
    refine AW.seq fun K367 hK367 => ?_
    refine AW.block ?_
    refine AW.seqR mixed [] [none, none] (by kernel_rfl) fun G368 R368 hG368 hR368 => ?_
    try simp [h1, h1_]
    repeat' apply And.intro
    any_goals (first | exact hG368 _ (by kernel_rfl) | refine hR368 _ _ _ ?_ | omega | (unfold maxLen; omega) | (simp [h1, h1_]; done) | (simp [h1, h1_]; omega))
    refine AW.wk [(0, AV.ptr 0 0), (1, AV.lst false false (List.map (AV.int .u8) v1)), (2, AV.ptr 1 0), (6, AV.ptr 2 0), (7, AV.int .i64 v4), (19, AV.int .i64 v4)] [(0, .cells (List.map (AV.int .u32) v0)), (1, .cells (List.map (AV.int .u32) v2)), (2, .cells (List.map (AV.int .u32) v5))] 3 (by simp [h1, h1_]) (by simp [h1, h1_]) (by simp) ?_
    refine AW.region mixed [] [none, none, none, none, none, none, none, none, none, none, none, none, none, none, none, none, none, none, none, none, none, none, none, none, none, none, none, none, none, none, none, none, none, none, none, none] (by kernel_rfl) fun G369 R369 hG369 hR369 => ?_
    obtain ⟨v6, h2, h3, h4, hF⟩ := idx_elim hF
    have h4_ := get_of h4
    try simp at h4_
    have h3_ := h3
    try simp at h3_
    obtain ⟨v7, h5, h6, h7, hF⟩ := idx_elim hF
    have h7_ := get_of h7
    try simp at h7_
    have h6_ := h6
    try simp at h6_
    obtain ⟨v8, h8, h9, h10, hF⟩ := idx_elim hF
    have h10_ := get_of h10
    try simp at h10_
    have h9_ := h9
    try simp at h9_
    obtain ⟨v9, h11, h12, h13, hF⟩ := idx_elim hF
    have h13_ := get_of h13
    try simp at h13_
    have h12_ := h12
    try simp at h12_
    obtain ⟨⟨h14, h16, h15⟩, hF⟩ := chk_elim hF
    have h15_ := ne_of_lt h15
    try simp [h1, h1_, h2, h3, h4, h4_, h3_, h5, h6, h7, h7_, h6_, h8, h9, h10, h10_, h9_, h11, h12, h13, h13_, h12_, h14, h15, h16, h15_]
    repeat' apply And.intro
    any_goals (first | exact hG369 _ (by kernel_rfl) | refine hR369 _ _ _ ?_ | omega | (unfold maxLen; omega) | (simp [h1, h1_, h2, h3, h4, h4_, h3_, h5, h6, h7, h7_, h6_, h8, h9, h10, h10_, h9_, h11, h12, h13, h13_, h12_, h14, h15, h16, h15_]; done) | (simp [h1, h1_, h2, h3, h4, h4_, h3_, h5, h6, h7, h7_, h6_, h8, h9, h10, h10_, h9_, h11, h12, h13, h13_, h12_, h14, h15, h16, h15_]; omega))
    refine hK367 _ _ _ ?_
    refine AW.wk [(0, AV.ptr 0 0), (1, AV.lst false false (List.map (AV.int .u8) v1)), (2, AV.ptr 1 0), (6, AV.ptr 2 0), (19, AV.int .i64 v4)] [(0, .cells (List.map (AV.int .u32) v0)), (1, .cells (List.map (AV.int .u32) v2)), (2, .cells (List.map (AV.int .u32) (v5.set (v4).toNat (bitsV .or .u32 (bitsV .or .u32 (bitsV .or .u32 (IntKind.wrap .u32 ((IntKind.wrap .u32 v6) * 2 ^ (24))) (IntKind.wrap .u32 ((IntKind.wrap .u32 v7) * 2 ^ (16)))) (IntKind.wrap .u32 ((IntKind.wrap .u32 v8) * 2 ^ (8)))) (IntKind.wrap .u32 v9)))))] 3 (by simp [h1, h1_, h2, h3, h4, h4_, h3_, h5, h6, h7, h7_, h6_, h8, h9, h10, h10_, h9_, h11, h12, h13, h13_, h12_, h14, h15, h16, h15_]) (by simp [h1, h1_, h2, h3, h4, h4_, h3_, h5, h6, h7, h7_, h6_, h8, h9, h10, h10_, h9_, h11, h12, h13, h13_, h12_, h14, h15, h16, h15_]) (by simp) ?_
    refine AW.region mixed [] [none, none] (by kernel_rfl) fun G370 R370 hG370 hR370 => ?_
    try simp [h1, h1_, h2, h3, h4, h4_, h3_, h5, h6, h7, h7_, h6_, h8, h9, h10, h10_, h9_, h11, h12, h13, h13_, h12_, h14, h15, h16, h15_]
    repeat' apply And.intro
    any_goals (first | exact hG370 _ (by kernel_rfl) | refine hR370 _ _ _ ?_ | omega | (unfold maxLen; omega) | (simp [h1, h1_, h2, h3, h4, h4_, h3_, h5, h6, h7, h7_, h6_, h8, h9, h10, h10_, h9_, h11, h12, h13, h13_, h12_, h14, h15, h16, h15_]; done) | (simp [h1, h1_, h2, h3, h4, h4_, h3_, h5, h6, h7, h7_, h6_, h8, h9, h10, h10_, h9_, h11, h12, h13, h13_, h12_, h14, h15, h16, h15_]; omega))
    refine hK362 _ _ _ ?_
    refine Can.weak [(0, AV.ptr 0 0), (1, AV.lst false false (List.map (AV.int .u8) v1)), (2, AV.ptr 1 0), (6, AV.ptr 2 0), (19, AV.int .i64 (IntKind.wrap .i64 (v4 + 1)))] [(0, .cells (List.map (AV.int .u32) v0)), (1, .cells (List.map (AV.int .u32) v2)), (2, .cells (List.map (AV.int .u32) (v5.set (v4).toNat (bitsV .or .u32 (bitsV .or .u32 (bitsV .or .u32 (IntKind.wrap .u32 ((IntKind.wrap .u32 v6) * 2 ^ (24))) (IntKind.wrap .u32 ((IntKind.wrap .u32 v7) * 2 ^ (16)))) (IntKind.wrap .u32 ((IntKind.wrap .u32 v8) * 2 ^ (8)))) (IntKind.wrap .u32 v9)))))] 3 (by simp [h1, h1_, h2, h3, h4, h4_, h3_, h5, h6, h7, h7_, h6_, h8, h9, h10, h10_, h9_, h11, h12, h13, h13_, h12_, h14, h15, h16, h15_]) (by simp [h1, h1_, h2, h3, h4, h4_, h3_, h5, h6, h7, h7_, h6_, h8, h9, h10, h10_, h9_, h11, h12, h13, h13_, h12_, h14, h15, h16, h15_]) (by simp) ?_
    exact Can.next (k' := n1) ((IntKind.wrap .i64 (v4 + 1), v5.set (v4).toNat (bitsV .or .u32 (bitsV .or .u32 (bitsV .or .u32 (IntKind.wrap .u32 ((IntKind.wrap .u32 v6) * 2 ^ (24))) (IntKind.wrap .u32 ((IntKind.wrap .u32 v7) * 2 ^ (16)))) (IntKind.wrap .u32 ((IntKind.wrap .u32 v8) * 2 ^ (8)))) (IntKind.wrap .u32 v9)))) (by omega) hF (by simp [h1, h1_, h2, h3, h4, h4_, h3_, h5, h6, h7, h7_, h6_, h8, h9, h10, h10_, h9_, h11, h12, h13, h13_, h12_, h14, h15, h16, h15_]) (by simp [h1, h1_, h2, h3, h4, h4_, h3_, h5, h6, h7, h7_, h6_, h8, h9, h10, h10_, h9_, h11, h12, h13, h13_, h12_, h14, h15, h16, h15_]) (by simp)
  · replace hF := ite_f h1 hF
    have h1_ := h1
    try simp at h1_
    refine AW.condF (by decide) (by first | (simp [h1, h1_]; done) | (simp [h1, h1_]; omega)) ?_
    refine AW.exit ?_
    try simp
    refine hK336 _ _ _ ?_
    refine AW.seqR mixed [] [none] (by kernel_rfl) fun G371 R371 hG371 hR371 => ?_
    try simp [h1, h1_]
    repeat' apply And.intro
    any_goals (first | exact hG371 _ (by kernel_rfl) | refine hR371 _ _ _ ?_ | omega | (unfold maxLen; omega) | (simp [h1, h1_]; done) | (simp [h1, h1_]; omega))
    refine AW.wk [(0, AV.ptr 0 0), (2, AV.ptr 1 0), (6, AV.ptr 2 0), (8, AV.fn 93 [])] [(0, .cells (List.map (AV.int .u32) v0)), (1, .cells (List.map (AV.int .u32) v2)), (2, .cells (List.map (AV.int .u32) v5))] 3 (by simp [h1, h1_]) (by simp [h1, h1_]) (by simp) ?_
    refine AW.seq fun K410 hK410 => ?_
    refine AW.seqR mixed [] [none] (by kernel_rfl) fun G411 R411 hG411 hR411 => ?_
    try simp [h1, h1_]
    repeat' apply And.intro
    any_goals (first | exact hG411 _ (by kernel_rfl) | refine hR411 _ _ _ ?_ | omega | (unfold maxLen; omega) | (simp [h1, h1_]; done) | (simp [h1, h1_]; omega))
    refine AW.wk [(0, AV.ptr 0 0), (2, AV.ptr 1 0), (6, AV.ptr 2 0), (8, AV.fn 93 []), (9, AV.int .i64 16)] [(0, .cells (List.map (AV.int .u32) v0)), (1, .cells (List.map (AV.int .u32) v2)), (2, .cells (List.map (AV.int .u32) v5))] 3 (by simp [h1, h1_]) (by simp [h1, h1_]) (by simp) ?_
    refine AW.block ?_
    refine AW.loopF (α := (Int × (List Int))) (fun n (v10, v11) => digest_state_block.L2 k v0 v2 n v10 v11 = some v3) (fun (v10, v11) => [(0, AV.ptr 0 0), (2, AV.ptr 1 0), (6, AV.ptr 2 0), (8, AV.fn 93 []), (9, AV.int .i64 v10)]) (fun (v10, v11) => [(0, .cells (List.map (AV.int .u32) v0)), (1, .cells (List.map (AV.int .u32) v2)), (2, .cells (List.map (AV.int .u32) v11))]) 3 k ((16, v5)) hF (by simp [h1, h1_]) (by simp [h1, h1_]) (by simp) ?_
    rintro (_|n2) ⟨v10, v11⟩ hF K439 hK439
    · try dsimp only at hF
      rw [digest_state_block.L2] at hF; cases hF
    try dsimp only at hF
    rw [digest_state_block.L2] at hF
    refine AW.seq fun K441 hK441 => ?_
    refine AW.seqR mixed [] [none, none] (by kernel_rfl) fun G442 R442 hG442 hR442 => ?_
    try simp [h1, h1_]
    repeat' apply And.intro
    any_goals (first | exact hG442 _ (by kernel_rfl) | refine hR442 _ _ _ ?_ | omega | (unfold maxLen; omega) | (simp [h1, h1_]; done) | (simp [h1, h1_]; omega))
    refine AW.wk [(0, AV.ptr 0 0), (2, AV.ptr 1 0), (6, AV.ptr 2 0), (8, AV.fn 93 []), (9, AV.int .i64 v10), (59, AV.bool (decide (v10 < 64)))] [(0, .cells (List.map (AV.int .u32) v0)), (1, .cells (List.map (AV.int .u32) v2)), (2, .cells (List.map (AV.int .u32) v11))] 3 (by simp [h1, h1_]) (by simp [h1, h1_]) (by simp) ?_
    by_cases h17 : v10 < 64
    · replace hF := ite_t h17 hF
      have h17_ := h17
      try simp at h17_
      refine AW.condT (by decide) (by first | (simp [h1, h1_, h17, h17_]; done) | (simp [h1, h1_, h17, h17_]; omega)) ?_
      refine AW.skip ?_
      refine hK441 _ _ _ ?_
      refine AW.seq fun K445 hK445 => ?_
      refine AW.block ?_
      refine AW.seqR mixed [] [none, none, none, none, none, none, none, none, none, none] (by kernel_rfl) fun G446 R446 hG446 hR446 => ?_
      obtain ⟨⟨h18, h20, h19⟩, hF⟩ := chk_elim hF
      have h19_ := ne_of_lt h19
      obtain ⟨v12, h21, h22, h23, hF⟩ := idx_elim hF
      have h23_ := get_of h23
      try simp at h23_
      have h22_ := h22
      try simp at h22_
      obtain ⟨⟨h24, h26, h25⟩, hF⟩ := chk_elim hF
      have h25_ := ne_of_lt h25
      obtain ⟨v13, h27, h28, h29, hF⟩ := idx_elim hF
      have h29_ := get_of h29
      try simp at h29_
      have h28_ := h28
      try simp at h28_
      try simp [h1, h1_, h17, h17_, h18, h19, h20, h19_, h21, h22, h23, h23_, h22_, h24, h25, h26, h25_, h27, h28, h29, h29_, h28_]
      repeat' apply And.intro
      any_goals (first | exact hG446 _ (by kernel_rfl) | refine hR446 _ _ _ ?_ | omega | (unfold maxLen; omega) | (simp [h1, h1_, h17, h17_, h18, h19, h20, h19_, h21, h22, h23, h23_, h22_, h24, h25, h26, h25_, h27, h28, h29, h29_, h28_]; done) | (simp [h1, h1_, h17, h17_, h18, h19, h20, h19_, h21, h22, h23, h23_, h22_, h24, h25, h26, h25_, h27, h28, h29, h29_, h28_]; omega))
      refine AW.wk [(0, AV.ptr 0 0), (2, AV.ptr 1 0), (6, AV.ptr 2 0), (8, AV.fn 93 []), (9, AV.int .i64 v10), (10, AV.int .u32 v12), (11, AV.int .u32 v13)] [(0, .cells (List.map (AV.int .u32) v0)), (1, .cells (List.map (AV.int .u32) v2)), (2, .cells (List.map (AV.int .u32) v11))] 3 (by simp [h1, h1_, h17, h17_, h18, h19, h20, h19_, h21, h22, h23, h23_, h22_, h24, h25, h26, h25_, h27, h28, h29, h29_, h28_]) (by simp [h1, h1_, h17, h17_, h18, h19, h20, h19_, h21, h22, h23, h23_, h22_, h24, h25, h26, h25_, h27, h28, h29, h29_, h28_]) (by simp) ?_
      refine AW.region mixed [] [none, none, none, none, none, none, none, none, none, none, none, none, none, none, none, none, none, none, none, none, none, none, none, none, none, none, none, none, none, none, none, none, none, none] (by kernel_rfl) fun G447 R447 hG447 hR447 => ?_
      obtain ⟨⟨h30, h32, h31⟩, hF⟩ := chk_elim hF
      have h31_ := ne_of_lt h31
      obtain ⟨v14, h33, h34, h35, hF⟩ := idx_elim hF
      have h35_ := get_of h35
      try simp at h35_
      have h34_ := h34
      try simp at h34_
      try simp [h1, h1_, h17, h17_, h18, h19, h20, h19_, h21, h22, h23, h23_, h22_, h24, h25, h26, h25_, h27, h28, h29, h29_, h28_, h30, h31, h32, h31_, h33, h34, h35, h35_, h34_]
      repeat' apply And.intro
      try any_goals (first | omega | (unfold maxLen; omega) | (simp [h1, h1_, h17, h17_, h18, h19, h20, h19_, h21, h22, h23, h23_, h22_, h24, h25, h26, h25_, h27, h28, h29, h29_, h28_, h30, h31, h32, h31_, h33, h34, h35, h35_, h34_]; done))
      obtain ⟨v15, h36, hF⟩ := bnd1_elim hF
      refine aCall_l (w_digest_state_block_1 k _ _ _ h36) (by simp) [] [] [] rfl (.cons (.same (by simp [h1, h1_, h17, h17_, h18, h19, h20, h19_, h21, h22, h23, h23_, h22_, h24, h25, h26, h25_, h27, h28, h29, h29_, h28_, h30, h31, h32, h31_, h33, h34, h35, h35_, h34_])) (.cons (.same (by simp [h1, h1_, h17, h17_, h18, h19, h20, h19_, h21, h22, h23, h23_, h22_, h24, h25, h26, h25_, h27, h28, h29, h29_, h28_, h30, h31, h32, h31_, h33, h34, h35, h35_, h34_])) .nil)) (by simp [h1, h1_, h17, h17_, h18, h19, h20, h19_, h21, h22, h23, h23_, h22_, h24, h25, h26, h25_, h27, h28, h29, h29_, h28_, h30, h31, h32, h31_, h33, h34, h35, h35_, h34_]) (by decide) (by simp) (by simp) (.inl rfl) (by simp) (by simp) ?_
      try simp [h1, h1_, h17, h17_, h18, h19, h20, h19_, h21, h22, h23, h23_, h22_, h24, h25, h26, h25_, h27, h28, h29, h29_, h28_, h30, h31, h32, h31_, h33, h34, h35, h35_, h34_]
      repeat' apply And.intro
      try any_goals (first | omega | (unfold maxLen; omega) | (simp [h1, h1_, h17, h17_, h18, h19, h20, h19_, h21, h22, h23, h23_, h22_, h24, h25, h26, h25_, h27, h28, h29, h29_, h28_, h30, h31, h32, h31_, h33, h34, h35, h35_, h34_]; done))
      obtain ⟨v16, h37, hF⟩ := bnd1_elim hF
      refine aCall_l (w_digest_state_block_1 k _ _ _ h37) (by simp) [] [] [] rfl (.cons (.same (by simp [h1, h1_, h17, h17_, h18, h19, h20, h19_, h21, h22, h23, h23_, h22_, h24, h25, h26, h25_, h27, h28, h29, h29_, h28_, h30, h31, h32, h31_, h33, h34, h35, h35_, h34_])) (.cons (.same (by simp [h1, h1_, h17, h17_, h18, h19, h20, h19_, h21, h22, h23, h23_, h22_, h24, h25, h26, h25_, h27, h28, h29, h29_, h28_, h30, h31, h32, h31_, h33, h34, h35, h35_, h34_])) .nil)) (by simp [h1, h1_, h17, h17_, h18, h19, h20, h19_, h21, h22, h23, h23_, h22_, h24, h25, h26, h25_, h27, h28, h29, h29_, h28_, h30, h31, h32, h31_, h33, h34, h35, h35_, h34_]) (by decide) (by simp) (by simp) (.inl rfl) (by simp) (by simp) ?_
      obtain ⟨⟨h38, h40, h39⟩, hF⟩ := chk_elim hF
      have h39_ := ne_of_lt h39
      obtain ⟨v17, h41, h42, h43, hF⟩ := idx_elim hF
      have h43_ := get_of h43
      try simp at h43_
      have h42_ := h42
      try simp at h42_
      try simp [h1, h1_, h17, h17_, h18, h19, h20, h19_, h21, h22, h23, h23_, h22_, h24, h25, h26, h25_, h27, h28, h29, h29_, h28_, h30, h31, h32, h31_, h33, h34, h35, h35_, h34_, h38, h39, h40, h39_, h41, h42, h43, h43_, h42_]
      repeat' apply And.intro
      try any_goals (first | omega | (unfold maxLen; omega) | (simp [h1, h1_, h17, h17_, h18, h19, h20, h19_, h21, h22, h23, h23_, h22_, h24, h25, h26, h25_, h27, h28, h29, h29_, h28_, h30, h31, h32, h31_, h33, h34, h35, h35_, h34_, h38, h39, h40, h39_, h41, h42, h43, h43_, h42_]; done))
      obtain ⟨v18, h44, hF⟩ := bnd1_elim hF
      refine aCall_l (w_digest_state_block_1 k _ _ _ h44) (by simp) [] [] [] rfl (.cons (.same (by simp [h1, h1_, h17, h17_, h18, h19, h20, h19_, h21, h22, h23, h23_, h22_, h24, h25, h26, h25_, h27, h28, h29, h29_, h28_, h30, h31, h32, h31_, h33, h34, h35, h35_, h34_, h38, h39, h40, h39_, h41, h42, h43, h43_, h42_])) (.cons (.same (by simp [h1, h1_, h17, h17_, h18, h19, h20, h19_, h21, h22, h23, h23_, h22_, h24, h25, h26, h25_, h27, h28, h29, h29_, h28_, h30, h31, h32, h31_, h33, h34, h35, h35_, h34_, h38, h39, h40, h39_, h41, h42, h43, h43_, h42_])) .nil)) (by simp [h1, h1_, h17, h17_, h18, h19, h20, h19_, h21, h22, h23, h23_, h22_, h24, h25, h26, h25_, h27, h28, h29, h29_, h28_, h30, h31, h32, h31_, h33, h34, h35, h35_, h34_, h38, h39, h40, h39_, h41, h42, h43, h43_, h42_]) (by decide) (by simp) (by simp) (.inl rfl) (by simp) (by simp) ?_
      try simp [h1, h1_, h17, h17_, h18, h19, h20, h19_, h21, h22, h23, h23_, h22_, h24, h25, h26, h25_, h27, h28, h29, h29_, h28_, h30, h31, h32, h31_, h33, h34, h35, h35_, h34_, h38, h39, h40, h39_, h41, h42, h43, h43_, h42_]
      repeat' apply And.intro
      try any_goals (first | omega | (unfold maxLen; omega) | (simp [h1, h1_, h17, h17_, h18, h19, h20, h19_, h21, h22, h23, h23_, h22_, h24, h25, h26, h25_, h27, h28, h29, h29_, h28_, h30, h31, h32, h31_, h33, h34, h35, h35_, h34_, h38, h39, h40, h39_, h41, h42, h43, h43_, h42_]; done))
      obtain ⟨v19, h45, hF⟩ := bnd1_elim hF
      refine aCall_l (w_digest_state_block_1 k _ _ _ h45) (by simp) [] [] [] rfl (.cons (.same (by simp [h1, h1_, h17, h17_, h18, h19, h20, h19_, h21, h22, h23, h23_, h22_, h24, h25, h26, h25_, h27, h28, h29, h29_, h28_, h30, h31, h32, h31_, h33, h34, h35, h35_, h34_, h38, h39, h40, h39_, h41, h42, h43, h43_, h42_])) (.cons (.same (by simp [h1, h1_, h17, h17_, h18, h19, h20, h19_, h21, h22, h23, h23_, h22_, h24, h25, h26, h25_, h27, h28, h29, h29_, h28_, h30, h31, h32, h31_, h33, h34, h35, h35_, h34_, h38, h39, h40, h39_, h41, h42, h43, h43_, h42_])) .nil)) (by simp [h1, h1_, h17, h17_, h18, h19, h20, h19_, h21, h22, h23, h23_, h22_, h24, h25, h26, h25_, h27, h28, h29, h29_, h28_, h30, h31, h32, h31_, h33, h34, h35, h35_, h34_, h38, h39, h40, h39_, h41, h42, h43, h43_, h42_]) (by decide) (by simp) (by simp) (.inl rfl) (by simp) (by simp) ?_
      obtain ⟨⟨h46, h48, h47⟩, hF⟩ := chk_elim hF
      have h47_ := ne_of_lt h47
      try simp [h1, h1_, h17, h17_, h18, h19, h20, h19_, h21, h22, h23, h23_, h22_, h24, h25, h26, h25_, h27, h28, h29, h29_, h28_, h30, h31, h32, h31_, h33, h34, h35, h35_, h34_, h38, h39, h40, h39_, h41, h42, h43, h43_, h42_, h46, h47, h48, h47_]
      repeat' apply And.intro
      any_goals (first | exact hG447 _ (by kernel_rfl) | refine hR447 _ _ _ ?_ | omega | (unfold maxLen; omega) | (simp [h1, h1_, h17, h17_, h18, h19, h20, h19_, h21, h22, h23, h23_, h22_, h24, h25, h26, h25_, h27, h28, h29, h29_, h28_, h30, h31, h32, h31_, h33, h34, h35, h35_, h34_, h38, h39, h40, h39_, h41, h42, h43, h43_, h42_, h46, h47, h48, h47_]; done) | (simp [h1, h1_, h17, h17_, h18, h19, h20, h19_, h21, h22, h23, h23_, h22_, h24, h25, h26, h25_, h27, h28, h29, h29_, h28_, h30, h31, h32, h31_, h33, h34, h35, h35_, h34_, h38, h39, h40, h39_, h41, h42, h43, h43_, h42_, h46, h47, h48, h47_]; omega))
      refine hK445 _ _ _ ?_
      refine AW.wk [(0, AV.ptr 0 0), (2, AV.ptr 1 0), (6, AV.ptr 2 0), (8, AV.fn 93 []), (9, AV.int .i64 v10)] [(0, .cells (List.map (AV.int .u32) v0)), (1, .cells (List.map (AV.int .u32) v2)), (2, .cells (List.map (AV.int .u32) (v11.set (v10).toNat (IntKind.wrap .u32 (IntKind.wrap .u32 (IntKind.wrap .u32 (v14 + bitsV .xor .u32 (bitsV .xor .u32 v15 v16) (Int.fdiv v12 (2 ^ (3)))) + v17) + bitsV .xor .u32 (bitsV .xor .u32 v18 v19) (Int.fdiv v13 (2 ^ (10))))))))] 3 (by simp [h1, h1_, h17, h17_, h18, h19, h20, h19_, h21, h22, h23, h23_, h22_, h24, h25, h26, h25_, h27, h28, h29, h29_, h28_, h30, h31, h32, h31_, h33, h34, h35, h35_, h34_, h38, h39, h40, h39_, h41, h42, h43, h43_, h42_, h46, h47, h48, h47_]) (by simp [h1, h1_, h17, h17_, h18, h19, h20, h19_, h21, h22, h23, h23_, h22_, h24, h25, h26, h25_, h27, h28, h29, h29_, h28_, h30, h31, h32, h31_, h33, h34, h35, h35_, h34_, h38, h39, h40, h39_, h41, h42, h43, h43_, h42_, h46, h47, h48, h47_]) (by simp) ?_
      refine AW.region mixed [] [none, none, none] (by kernel_rfl) fun G448 R448 hG448 hR448 => ?_
      try simp [h1, h1_, h17, h17_, h18, h19, h20, h19_, h21, h22, h23, h23_, h22_, h24, h25, h26, h25_, h27, h28, h29, h29_, h28_, h30, h31, h32, h31_, h33, h34, h35, h35_, h34_, h38, h39, h40, h39_, h41, h42, h43, h43_, h42_, h46, h47, h48, h47_]
      repeat' apply And.intro
      any_goals (first | exact hG448 _ (by kernel_rfl) | refine hR448 _ _ _ ?_ | omega | (unfold maxLen; omega) | (simp [h1, h1_, h17, h17_, h18, h19, h20, h19_, h21, h22, h23, h23_, h22_, h24, h25, h26, h25_, h27, h28, h29, h29_, h28_, h30, h31, h32, h31_, h33, h34, h35, h35_, h34_, h38, h39, h40, h39_, h41, h42, h43, h43_, h42_, h46, h47, h48, h47_]; done) | (simp [h1, h1_, h17, h17_, h18, h19, h20, h19_, h21, h22, h23, h23_, h22_, h24, h25, h26, h25_, h27, h28, h29, h29_, h28_, h30, h31, h32, h31_, h33, h34, h35, h35_, h34_, h38, h39, h40, h39_, h41, h42, h43, h43_, h42_, h46, h47, h48, h47_]; omega))
      refine hK439 _ _ _ ?_
      refine Can.weak [(0, AV.ptr 0 0), (2, AV.ptr 1 0), (6, AV.ptr 2 0), (8, AV.fn 93 []), (9, AV.int .i64 (IntKind.wrap .i64 (v10 + 1)))] [(0, .cells (List.map (AV.int .u32) v0)), (1, .cells (List.map (AV.int .u32) v2)), (2, .cells (List.map (AV.int .u32) (v11.set (v10).toNat (IntKind.wrap .u32 (IntKind.wrap .u32 (IntKind.wrap .u32 (v14 + bitsV .xor .u32 (bitsV .xor .u32 v15 v16) (Int.fdiv v12 (2 ^ (3)))) + v17) + bitsV .xor .u32 (bitsV .xor .u32 v18 v19) (Int.fdiv v13 (2 ^ (10))))))))] 3 (by simp [h1, h1_, h17, h17_, h18, h19, h20, h19_, h21, h22, h23, h23_, h22_, h24, h25, h26, h25_, h27, h28, h29, h29_, h28_, h30, h31, h32, h31_, h33, h34, h35, h35_, h34_, h38, h39, h40, h39_, h41, h42, h43, h43_, h42_, h46, h47, h48, h47_]) (by simp [h1, h1_, h17, h17_, h18, h19, h20, h19_, h21, h22, h23, h23_, h22_, h24, h25, h26, h25_, h27, h28, h29, h29_, h28_, h30, h31, h32, h31_, h33, h34, h35, h35_, h34_, h38, h39, h40, h39_, h41, h42, h43, h43_, h42_, h46, h47, h48, h47_]) (by simp) ?_
      exact Can.next (k' := n2) ((IntKind.wrap .i64 (v10 + 1), v11.set (v10).toNat (IntKind.wrap .u32 (IntKind.wrap .u32 (IntKind.wrap .u32 (v14 + bitsV .xor .u32 (bitsV .xor .u32 v15 v16) (Int.fdiv v12 (2 ^ (3)))) + v17) + bitsV .xor .u32 (bitsV .xor .u32 v18 v19) (Int.fdiv v13 (2 ^ (10))))))) (by omega) hF (by simp [h1, h1_, h17, h17_, h18, h19, h20, h19_, h21, h22, h23, h23_, h22_, h24, h25, h26, h25_, h27, h28, h29, h29_, h28_, h30, h31, h32, h31_, h33, h34, h35, h35_, h34_, h38, h39, h40, h39_, h41, h42, h43, h43_, h42_, h46, h47, h48, h47_]) (by simp [h1, h1_, h17, h17_, h18, h19, h20, h19_, h21, h22, h23, h23_, h22_, h24, h25, h26, h25_, h27, h28, h29, h29_, h28_, h30, h31, h32, h31_, h33, h34, h35, h35_, h34_, h38, h39, h40, h39_, h41, h42, h43, h43_, h42_, h46, h47, h48, h47_]) (by simp)
    · replace hF := ite_f h17 hF
      have h17_ := h17
      try simp at h17_
      refine AW.condF (by decide) (by first | (simp [h1, h1_, h17, h17_]; done) | (simp [h1, h1_, h17, h17_]; omega)) ?_
      refine AW.exit ?_
      try simp
      refine hK410 _ _ _ ?_
      refine AW.seqR mixed [] [none, none, none, none, none] (by kernel_rfl) fun G449 R449 hG449 hR449 => ?_
      -- array load
      obtain ⟨h49, hF⟩ := chk_elim hF
      have h49_ := ne_of_len h49 (by decide)
      obtain ⟨h50, hF⟩ := chk_elim hF
      try simp [h1, h1_, h17, h17_, h49, h49_, h50]
      repeat' apply And.intro
      any_goals (first | exact hG449 _ (by kernel_rfl) | refine hR449 _ _ _ ?_ | omega | (unfold maxLen; omega) | (simp [h1, h1_, h17, h17_, h49, h49_, h50]; done) | (simp [h1, h1_, h17, h17_, h49, h49_, h50]; omega))
      refine AW.wk [(0, AV.ptr 0 0), (2, AV.ptr 1 0), (6, AV.ptr 2 0), (8, AV.fn 93 []), (12, AV.ptr 3 0)] [(0, .cells (List.map (AV.int .u32) v0)), (1, .cells (List.map (AV.int .u32) v2)), (2, .cells (List.map (AV.int .u32) v11)), (3, .cells (List.map (AV.int .u32) v0))] 4 (by simp [h1, h1_, h17, h17_, h49, h49_, h50]) (by simp [h1, h1_, h17, h17_, h49, h49_, h50]) (by simp) ?_
      refine AW.seq fun K508 hK508 => ?_
      refine AW.seqR mixed [] [none] (by kernel_rfl) fun G509 R509 hG509 hR509 => ?_
      try simp [h1, h1_, h17, h17_, h49, h49_, h50]
      repeat' apply And.intro
      any_goals (first | exact hG509 _ (by kernel_rfl) | refine hR509 _ _ _ ?_ | omega | (unfold maxLen; omega) | (simp [h1, h1_, h17, h17_, h49, h49_, h50]; done) | (simp [h1, h1_, h17, h17_, h49, h49_, h50]; omega))
      refine AW.wk [(0, AV.ptr 0 0), (2, AV.ptr 1 0), (6, AV.ptr 2 0), (8, AV.fn 93 []), (12, AV.ptr 3 0), (106, AV.int .i64 0)] [(0, .cells (List.map (AV.int .u32) v0)), (1, .cells (List.map (AV.int .u32) v2)), (2, .cells (List.map (AV.int .u32) v11)), (3, .cells (List.map (AV.int .u32) v0))] 4 (by simp [h1, h1_, h17, h17_, h49, h49_, h50]) (by simp [h1, h1_, h17, h17_, h49, h49_, h50]) (by simp) ?_
      refine AW.block ?_
      refine AW.loopF (α := (Int × (List Int))) (fun n (v20, v21) => digest_state_block.L3 k v0 v2 v11 n v20 v21 = some v3) (fun (v20, v21) => [(0, AV.ptr 0 0), (2, AV.ptr 1 0), (6, AV.ptr 2 0), (8, AV.fn 93 []), (12, AV.ptr 3 0), (106, AV.int .i64 v20)]) (fun (v20, v21) => [(0, .cells (List.map (AV.int .u32) v0)), (1, .cells (List.map (AV.int .u32) v2)), (2, .cells (List.map (AV.int .u32) v11)), (3, .cells (List.map (AV.int .u32) v21))]) 4 k ((0, v0)) hF (by simp [h1, h1_, h17, h17_, h49, h49_, h50]) (by simp [h1, h1_, h17, h17_, h49, h49_, h50]) (by simp) ?_
      rintro (_|n3) ⟨v20, v21⟩ hF K552 hK552
      · try dsimp only at hF
        rw [digest_state_block.L3] at hF; cases hF
      try dsimp only at hF
      rw [digest_state_block.L3] at hF
      refine AW.seqR mixed [] [none] (by kernel_rfl) fun G553 R553 hG553 hR553 => ?_
      try simp [h1, h1_, h17, h17_, h49, h49_, h50]
      repeat' apply And.intro
      any_goals (first | exact hG553 _ (by kernel_rfl) | refine hR553 _ _ _ ?_ | omega | (unfold maxLen; omega) | (simp [h1, h1_, h17, h17_, h49, h49_, h50]; done) | (simp [h1, h1_, h17, h17_, h49, h49_, h50]; omega))
      refine AW.wk [(0, AV.ptr 0 0), (2, AV.ptr 1 0), (6, AV.ptr 2 0), (8, AV.fn 93 []), (12, AV.ptr 3 0), (106, AV.int .i64 v20), (107, AV.bool (decide (v20 < 64)))] [(0, .cells (List.map (AV.int .u32) v0)), (1, .cells (List.map (AV.int .u32) v2)), (2, .cells (List.map (AV.int .u32) v11)), (3, .cells (List.map (AV.int .u32) v21))] 4 (by simp [h1, h1_, h17, h17_, h49, h49_, h50]) (by simp [h1, h1_, h17, h17_, h49, h49_, h50]) (by simp) ?_
      refine AW.seq fun K554 hK554 => ?_
      by_cases h51 : v20 < 64
      · replace hF := ite_t h51 hF
        have h51_ := h51
        try simp at h51_
        refine AW.condT (by decide) (by first | (simp [h1, h1_, h17, h17_, h49, h49_, h50, h51, h51_]; done) | (simp [h1, h1_, h17, h17_, h49, h49_, h50, h51, h51_]; omega)) ?_
        refine AW.skip ?_
        refine hK554 _ _ _ ?_
        refine AW.seq fun K560 hK560 => ?_
        refine AW.block ?_
        refine AW.seqR mixed [] [none, none] (by kernel_rfl) fun G561 R561 hG561 hR561 => ?_
        try simp [h1, h1_, h17, h17_, h49, h49_, h50, h51, h51_]
        repeat' apply And.intro
        any_goals (first | exact hG561 _ (by kernel_rfl) | refine hR561 _ _ _ ?_ | omega | (unfold maxLen; omega) | (simp [h1, h1_, h17, h17_, h49, h49_, h50, h51, h51_]; done) | (simp [h1, h1_, h17, h17_, h49, h49_, h50, h51, h51_]; omega))
        refine AW.wk [(0, AV.ptr 0 0), (2, AV.ptr 1 0), (6, AV.ptr 2 0), (8, AV.fn 93 []), (12, AV.ptr 3 0), (13, AV.int .i64 v20), (106, AV.int .i64 v20)] [(0, .cells (List.map (AV.int .u32) v0)), (1, .cells (List.map (AV.int .u32) v2)), (2, .cells (List.map (AV.int .u32) v11)), (3, .cells (List.map (AV.int .u32) v21))] 4 (by simp [h1, h1_, h17, h17_, h49, h49_, h50, h51, h51_]) (by simp [h1, h1_, h17, h17_, h49, h49_, h50, h51, h51_]) (by simp) ?_
        refine AW.seqR mixed [] [none, none, none, none, none, none] (by kernel_rfl) fun G562 R562 hG562 hR562 => ?_
        obtain ⟨⟨h52, h54, h53⟩, hF⟩ := chk_elim hF
        have h53_ := ne_of_lt h53
        obtain ⟨v22, h55, h56, h57, hF⟩ := idx_elim hF
        have h57_ := get_of h57
        try simp at h57_
        have h56_ := h56
        try simp at h56_
        have h57z := head_of h57
        obtain ⟨⟨h58, h60, h59⟩, hF⟩ := chk_elim hF
        have h59_ := ne_of_lt h59
        obtain ⟨v23, h61, h62, h63, hF⟩ := idx_elim hF
        have h63_ := get_of h63
        try simp at h63_
        have h62_ := h62
        try simp at h62_
        try simp [h1, h1_, h17, h17_, h49, h49_, h50, h51, h51_, h52, h53, h54, h53_, h55, h56, h57, h57_, h56_, h57z, h58, h59, h60, h59_, h61, h62, h63, h63_, h62_]
        repeat' apply And.intro
        any_goals (first | exact hG562 _ (by kernel_rfl) | refine hR562 _ _ _ ?_ | omega | (unfold maxLen; omega) | (simp [h1, h1_, h17, h17_, h49, h49_, h50, h51, h51_, h52, h53, h54, h53_, h55, h56, h57, h57_, h56_, h57z, h58, h59, h60, h59_, h61, h62, h63, h63_, h62_]; done) | (simp [h1, h1_, h17, h17_, h49, h49_, h50, h51, h51_, h52, h53, h54, h53_, h55, h56, h57, h57_, h56_, h57z, h58, h59, h60, h59_, h61, h62, h63, h63_, h62_]; omega))
        refine AW.wk [(0, AV.ptr 0 0), (2, AV.ptr 1 0), (6, AV.ptr 2 0), (8, AV.fn 93 []), (12, AV.ptr 3 0), (13, AV.int .i64 v20), (14, AV.int .u32 v22), (15, AV.int .u32 v23), (106, AV.int .i64 v20)] [(0, .cells (List.map (AV.int .u32) v0)), (1, .cells (List.map (AV.int .u32) v2)), (2, .cells (List.map (AV.int .u32) v11)), (3, .cells (List.map (AV.int .u32) v21))] 4 (by simp [h1, h1_, h17, h17_, h49, h49_, h50, h51, h51_, h52, h53, h54, h53_, h55, h56, h57, h57_, h56_, h57z, h58, h59, h60, h59_, h61, h62, h63, h63_, h62_]) (by simp [h1, h1_, h17, h17_, h49, h49_, h50, h51, h51_, h52, h53, h54, h53_, h55, h56, h57, h57_, h56_, h57z, h58, h59, h60, h59_, h61, h62, h63, h63_, h62_]) (by simp) ?_
        refine AW.seqR mixed [] [none, none, none, none, none, none, none, none, none, none, none, none, none, none, none, none, none, none, none, none, none, none, none, none, none, none, none, none, none, none, none, none, none, none, none, none] (by kernel_rfl) fun G563 R563 hG563 hR563 => ?_
        obtain ⟨⟨h64, h66, h65⟩, hF⟩ := chk_elim hF
        have h65_ := ne_of_lt h65
        obtain ⟨v24, h67, h68, h69, hF⟩ := idx_elim hF
        have h69_ := get_of h69
        try simp at h69_
        have h68_ := h68
        try simp at h68_
        try simp [h1, h1_, h17, h17_, h49, h49_, h50, h51, h51_, h52, h53, h54, h53_, h55, h56, h57, h57_, h56_, h57z, h58, h59, h60, h59_, h61, h62, h63, h63_, h62_, h64, h65, h66, h65_, h67, h68, h69, h69_, h68_]
        repeat' apply And.intro
        try any_goals (first | omega | (unfold maxLen; omega) | (simp [h1, h1_, h17, h17_, h49, h49_, h50, h51, h51_, h52, h53, h54, h53_, h55, h56, h57, h57_, h56_, h57z, h58, h59, h60, h59_, h61, h62, h63, h63_, h62_, h64, h65, h66, h65_, h67, h68, h69, h69_, h68_]; done))
        obtain ⟨v25, h70, hF⟩ := bnd1_elim hF
        refine aCall_l (w_digest_state_block_1 k _ _ _ h70) (by simp) [] [] [] rfl (.cons (.same (by simp [h1, h1_, h17, h17_, h49, h49_, h50, h51, h51_, h52, h53, h54, h53_, h55, h56, h57, h57_, h56_, h57z, h58, h59, h60, h59_, h61, h62, h63, h63_, h62_, h64, h65, h66, h65_, h67, h68, h69, h69_, h68_])) (.cons (.same (by simp [h1, h1_, h17, h17_, h49, h49_, h50, h51, h51_, h52, h53, h54, h53_, h55, h56, h57, h57_, h56_, h57z, h58, h59, h60, h59_, h61, h62, h63, h63_, h62_, h64, h65, h66, h65_, h67, h68, h69, h69_, h68_])) .nil)) (by simp [h1, h1_, h17, h17_, h49, h49_, h50, h51, h51_, h52, h53, h54, h53_, h55, h56, h57, h57_, h56_, h57z, h58, h59, h60, h59_, h61, h62, h63, h63_, h62_, h64, h65, h66, h65_, h67, h68, h69, h69_, h68_]) (by decide) (by simp) (by simp) (.inl rfl) (by simp) (by simp) ?_
        try simp [h1, h1_, h17, h17_, h49, h49_, h50, h51, h51_, h52, h53, h54, h53_, h55, h56, h57, h57_, h56_, h57z, h58, h59, h60, h59_, h61, h62, h63, h63_, h62_, h64, h65, h66, h65_, h67, h68, h69, h69_, h68_]
        repeat' apply And.intro
        try any_goals (first | omega | (unfold maxLen; omega) | (simp [h1, h1_, h17, h17_, h49, h49_, h50, h51, h51_, h52, h53, h54, h53_, h55, h56, h57, h57_, h56_, h57z, h58, h59, h60, h59_, h61, h62, h63, h63_, h62_, h64, h65, h66, h65_, h67, h68, h69, h69_, h68_]; done))
        obtain ⟨v26, h71, hF⟩ := bnd1_elim hF
        refine aCall_l (w_digest_state_block_1 k _ _ _ h71) (by simp) [] [] [] rfl (.cons (.same (by simp [h1, h1_, h17, h17_, h49, h49_, h50, h51, h51_, h52, h53, h54, h53_, h55, h56, h57, h57_, h56_, h57z, h58, h59, h60, h59_, h61, h62, h63, h63_, h62_, h64, h65, h66, h65_, h67, h68, h69, h69_, h68_])) (.cons (.same (by simp [h1, h1_, h17, h17_, h49, h49_, h50, h51, h51_, h52, h53, h54, h53_, h55, h56, h57, h57_, h56_, h57z, h58, h59, h60, h59_, h61, h62, h63, h63_, h62_, h64, h65, h66, h65_, h67, h68, h69, h69_, h68_])) .nil)) (by simp [h1, h1_, h17, h17_, h49, h49_, h50, h51, h51_, h52, h53, h54, h53_, h55, h56, h57, h57_, h56_, h57z, h58, h59, h60, h59_, h61, h62, h63, h63_, h62_, h64, h65, h66, h65_, h67, h68, h69, h69_, h68_]) (by decide) (by simp) (by simp) (.inl rfl) (by simp) (by simp) ?_
        try simp [h1, h1_, h17, h17_, h49, h49_, h50, h51, h51_, h52, h53, h54, h53_, h55, h56, h57, h57_, h56_, h57z, h58, h59, h60, h59_, h61, h62, h63, h63_, h62_, h64, h65, h66, h65_, h67, h68, h69, h69_, h68_]
        repeat' apply And.intro
        try any_goals (first | omega | (unfold maxLen; omega) | (simp [h1, h1_, h17, h17_, h49, h49_, h50, h51, h51_, h52, h53, h54, h53_, h55, h56, h57, h57_, h56_, h57z, h58, h59, h60, h59_, h61, h62, h63, h63_, h62_, h64, h65, h66, h65_, h67, h68, h69, h69_, h68_]; done))
        obtain ⟨v27, h72, hF⟩ := bnd1_elim hF
        refine aCall_l (w_digest_state_block_1 k _ _ _ h72) (by simp) [] [] [] rfl (.cons (.same (by simp [h1, h1_, h17, h17_, h49, h49_, h50, h51, h51_, h52, h53, h54, h53_, h55, h56, h57, h57_, h56_, h57z, h58, h59, h60, h59_, h61, h62, h63, h63_, h62_, h64, h65, h66, h65_, h67, h68, h69, h69_, h68_])) (.cons (.same (by simp [h1, h1_, h17, h17_, h49, h49_, h50, h51, h51_, h52, h53, h54, h53_, h55, h56, h57, h57_, h56_, h57z, h58, h59, h60, h59_, h61, h62, h63, h63_, h62_, h64, h65, h66, h65_, h67, h68, h69, h69_, h68_])) .nil)) (by simp [h1, h1_, h17, h17_, h49, h49_, h50, h51, h51_, h52, h53, h54, h53_, h55, h56, h57, h57_, h56_, h57z, h58, h59, h60, h59_, h61, h62, h63, h63_, h62_, h64, h65, h66, h65_, h67, h68, h69, h69_, h68_]) (by decide) (by simp) (by simp) (.inl rfl) (by simp) (by simp) ?_
        obtain ⟨⟨h73, h75, h74⟩, hF⟩ := chk_elim hF
        have h74_ := ne_of_lt h74
        obtain ⟨v28, h76, h77, h78, hF⟩ := idx_elim hF
        have h78_ := get_of h78
        try simp at h78_
        have h77_ := h77
        try simp at h77_
        obtain ⟨⟨h79, h81, h80⟩, hF⟩ := chk_elim hF
        have h80_ := ne_of_lt h80
        obtain ⟨v29, h82, h83, h84, hF⟩ := idx_elim hF
        have h84_ := get_of h84
        try simp at h84_
        have h83_ := h83
        try simp at h83_
        obtain ⟨⟨h85, h87, h86⟩, hF⟩ := chk_elim hF
        have h86_ := ne_of_lt h86
        obtain ⟨v30, h88, h89, h90, hF⟩ := idx_elim hF
        have h90_ := get_of h90
        try simp at h90_
        have h89_ := h89
        try simp at h89_
        obtain ⟨⟨h91, h93, h92⟩, hF⟩ := chk_elim hF
        have h92_ := ne_of_lt h92
        obtain ⟨v31, h94, h95, h96, hF⟩ := idx_elim hF
        have h96_ := get_of h96
        try simp at h96_
        have h95_ := h95
        try simp at h95_
        try simp [h1, h1_, h17, h17_, h49, h49_, h50, h51, h51_, h52, h53, h54, h53_, h55, h56, h57, h57_, h56_, h57z, h58, h59, h60, h59_, h61, h62, h63, h63_, h62_, h64, h65, h66, h65_, h67, h68, h69, h69_, h68_, h73, h74, h75, h74_, h76, h77, h78, h78_, h77_, h79, h80, h81, h80_, h82, h83, h84, h84_, h83_, h85, h86, h87, h86_, h88, h89, h90, h90_, h89_, h91, h92, h93, h92_, h94, h95, h96, h96_, h95_]
        repeat' apply And.intro
        any_goals (first | exact hG563 _ (by kernel_rfl) | refine hR563 _ _ _ ?_ | omega | (unfold maxLen; omega) | (simp [h1, h1_, h17, h17_, h49, h49_, h50, h51, h51_, h52, h53, h54, h53_, h55, h56, h57, h57_, h56_, h57z, h58, h59, h60, h59_, h61, h62, h63, h63_, h62_, h64, h65, h66, h65_, h67, h68, h69, h69_, h68_, h73, h74, h75, h74_, h76, h77, h78, h78_, h77_, h79, h80, h81, h80_, h82, h83, h84, h84_, h83_, h85, h86, h87, h86_, h88, h89, h90, h90_, h89_, h91, h92, h93, h92_, h94, h95, h96, h96_, h95_]; done) | (simp [h1, h1_, h17, h17_, h49, h49_, h50, h51, h51_, h52, h53, h54, h53_, h55, h56, h57, h57_, h56_, h57z, h58, h59, h60, h59_, h61, h62, h63, h63_, h62_, h64, h65, h66, h65_, h67, h68, h69, h69_, h68_, h73, h74, h75, h74_, h76, h77, h78, h78_, h77_, h79, h80, h81, h80_, h82, h83, h84, h84_, h83_, h85, h86, h87, h86_, h88, h89, h90, h90_, h89_, h91, h92, h93, h92_, h94, h95, h96, h96_, h95_]; omega))
        refine AW.wk [(0, AV.ptr 0 0), (2, AV.ptr 1 0), (6, AV.ptr 2 0), (8, AV.fn 93 []), (12, AV.ptr 3 0), (14, AV.int .u32 v22), (16, AV.int .u32 (IntKind.wrap .u32 (IntKind.wrap .u32 (IntKind.wrap .u32 (IntKind.wrap .u32 (v24 + bitsV .xor .u32 (bitsV .xor .u32 v25 v26) v27) + bitsV .xor .u32 (bitsV .and .u32 v23 v28) (bitsV .and .u32 (bitsV .xor .u32 (IntKind.max .u32) v23) v29)) + v30) + v31))), (106, AV.int .i64 v20)] [(0, .cells (List.map (AV.int .u32) v0)), (1, .cells (List.map (AV.int .u32) v2)), (2, .cells (List.map (AV.int .u32) v11)), (3, .cells (List.map (AV.int .u32) v21))] 4 (by simp [h1, h1_, h17, h17_, h49, h49_, h50, h51, h51_, h52, h53, h54, h53_, h55, h56, h57, h57_, h56_, h57z, h58, h59, h60, h59_, h61, h62, h63, h63_, h62_, h64, h65, h66, h65_, h67, h68, h69, h69_, h68_, h73, h74, h75, h74_, h76, h77, h78, h78_, h77_, h79, h80, h81, h80_, h82, h83, h84, h84_, h83_, h85, h86, h87, h86_, h88, h89, h90, h90_, h89_, h91, h92, h93, h92_, h94, h95, h96, h96_, h95_]) (by simp [h1, h1_, h17, h17_, h49, h49_, h50, h51, h51_, h52, h53, h54, h53_, h55, h56, h57, h57_, h56_, h57z, h58, h59, h60, h59_, h61, h62, h63, h63_, h62_, h64, h65, h66, h65_, h67, h68, h69, h69_, h68_, h73, h74, h75, h74_, h76, h77, h78, h78_, h77_, h79, h80, h81, h80_, h82, h83, h84, h84_, h83_, h85, h86, h87, h86_, h88, h89, h90, h90_, h89_, h91, h92, h93, h92_, h94, h95, h96, h96_, h95_]) (by simp) ?_
        refine AW.seqR mixed [] [none, none, none, none, none, none, none, none, none, none, none, none, none, none, none, none, none, none, none, none, none, none, none, none, none, none, none, none] (by kernel_rfl) fun G564 R564 hG564 hR564 => ?_
        try simp [h1, h1_, h17, h17_, h49, h49_, h50, h51, h51_, h52, h53, h54, h53_, h55, h56, h57, h57_, h56_, h57z, h58, h59, h60, h59_, h61, h62, h63, h63_, h62_, h64, h65, h66, h65_, h67, h68, h69, h69_, h68_, h73, h74, h75, h74_, h76, h77, h78, h78_, h77_, h79, h80, h81, h80_, h82, h83, h84, h84_, h83_, h85, h86, h87, h86_, h88, h89, h90, h90_, h89_, h91, h92, h93, h92_, h94, h95, h96, h96_, h95_]
        repeat' apply And.intro
        try any_goals (first | omega | (unfold maxLen; omega) | (simp [h1, h1_, h17, h17_, h49, h49_, h50, h51, h51_, h52, h53, h54, h53_, h55, h56, h57, h57_, h56_, h57z, h58, h59, h60, h59_, h61, h62, h63, h63_, h62_, h64, h65, h66, h65_, h67, h68, h69, h69_, h68_, h73, h74, h75, h74_, h76, h77, h78, h78_, h77_, h79, h80, h81, h80_, h82, h83, h84, h84_, h83_, h85, h86, h87, h86_, h88, h89, h90, h90_, h89_, h91, h92, h93, h92_, h94, h95, h96, h96_, h95_]; done))
        obtain ⟨v32, h97, hF⟩ := bnd1_elim hF
        refine aCall_l (w_digest_state_block_1 k _ _ _ h97) (by simp) [] [] [] rfl (.cons (.same (by simp [h1, h1_, h17, h17_, h49, h49_, h50, h51, h51_, h52, h53, h54, h53_, h55, h56, h57, h57_, h56_, h57z, h58, h59, h60, h59_, h61, h62, h63, h63_, h62_, h64, h65, h66, h65_, h67, h68, h69, h69_, h68_, h73, h74, h75, h74_, h76, h77, h78, h78_, h77_, h79, h80, h81, h80_, h82, h83, h84, h84_, h83_, h85, h86, h87, h86_, h88, h89, h90, h90_, h89_, h91, h92, h93, h92_, h94, h95, h96, h96_, h95_])) (.cons (.same (by simp [h1, h1_, h17, h17_, h49, h49_, h50, h51, h51_, h52, h53, h54, h53_, h55, h56, h57, h57_, h56_, h57z, h58, h59, h60, h59_, h61, h62, h63, h63_, h62_, h64, h65, h66, h65_, h67, h68, h69, h69_, h68_, h73, h74, h75, h74_, h76, h77, h78, h78_, h77_, h79, h80, h81, h80_, h82, h83, h84, h84_, h83_, h85, h86, h87, h86_, h88, h89, h90, h90_, h89_, h91, h92, h93, h92_, h94, h95, h96, h96_, h95_])) .nil)) (by simp [h1, h1_, h17, h17_, h49, h49_, h50, h51, h51_, h52, h53, h54, h53_, h55, h56, h57, h57_, h56_, h57z, h58, h59, h60, h59_, h61, h62, h63, h63_, h62_, h64, h65, h66, h65_, h67, h68, h69, h69_, h68_, h73, h74, h75, h74_, h76, h77, h78, h78_, h77_, h79, h80, h81, h80_, h82, h83, h84, h84_, h83_, h85, h86, h87, h86_, h88, h89, h90, h90_, h89_, h91, h92, h93, h92_, h94, h95, h96, h96_, h95_]) (by decide) (by simp) (by simp) (.inl rfl) (by simp) (by simp) ?_
        try simp [h1, h1_, h17, h17_, h49, h49_, h50, h51, h51_, h52, h53, h54, h53_, h55, h56, h57, h57_, h56_, h57z, h58, h59, h60, h59_, h61, h62, h63, h63_, h62_, h64, h65, h66, h65_, h67, h68, h69, h69_, h68_, h73, h74, h75, h74_, h76, h77, h78, h78_, h77_, h79, h80, h81, h80_, h82, h83, h84, h84_, h83_, h85, h86, h87, h86_, h88, h89, h90, h90_, h89_, h91, h92, h93, h92_, h94, h95, h96, h96_, h95_]
        repeat' apply And.intro
        try any_goals (first | omega | (unfold maxLen; omega) | (simp [h1, h1_, h17, h17_, h49, h49_, h50, h51, h51_, h52, h53, h54, h53_, h55, h56, h57, h57_, h56_, h57z, h58, h59, h60, h59_, h61, h62, h63, h63_, h62_, h64, h65, h66, h65_, h67, h68, h69, h69_, h68_, h73, h74, h75, h74_, h76, h77, h78, h78_, h77_, h79, h80, h81, h80_, h82, h83, h84, h84_, h83_, h85, h86, h87, h86_, h88, h89, h90, h90_, h89_, h91, h92, h93, h92_, h94, h95, h96, h96_, h95_]; done))
        obtain ⟨v33, h98, hF⟩ := bnd1_elim hF
        refine aCall_l (w_digest_state_block_1 k _ _ _ h98) (by simp) [] [] [] rfl (.cons (.same (by simp [h1, h1_, h17, h17_, h49, h49_, h50, h51, h51_, h52, h53, h54, h53_, h55, h56, h57, h57_, h56_, h57z, h58, h59, h60, h59_, h61, h62, h63, h63_, h62_, h64, h65, h66, h65_, h67, h68, h69, h69_, h68_, h73, h74, h75, h74_, h76, h77, h78, h78_, h77_, h79, h80, h81, h80_, h82, h83, h84, h84_, h83_, h85, h86, h87, h86_, h88, h89, h90, h90_, h89_, h91, h92, h93, h92_, h94, h95, h96, h96_, h95_])) (.cons (.same (by simp [h1, h1_, h17, h17_, h49, h49_, h50, h51, h51_, h52, h53, h54, h53_, h55, h56, h57, h57_, h56_, h57z, h58, h59, h60, h59_, h61, h62, h63, h63_, h62_, h64, h65, h66, h65_, h67, h68, h69, h69_, h68_, h73, h74, h75, h74_, h76, h77, h78, h78_, h77_, h79, h80, h81, h80_, h82, h83, h84, h84_, h83_, h85, h86, h87, h86_, h88, h89, h90, h90_, h89_, h91, h92, h93, h92_, h94, h95, h96, h96_, h95_])) .nil)) (by simp [h1, h1_, h17, h17_, h49, h49_, h50, h51, h51_, h52, h53, h54, h53_, h55, h56, h57, h57_, h56_, h57z, h58, h59, h60, h59_, h61, h62, h63, h63_, h62_, h64, h65, h66, h65_, h67, h68, h69, h69_, h68_, h73, h74, h75, h74_, h76, h77, h78, h78_, h77_, h79, h80, h81, h80_, h82, h83, h84, h84_, h83_, h85, h86, h87, h86_, h88, h89, h90, h90_, h89_, h91, h92, h93, h92_, h94, h95, h96, h96_, h95_]) (by decide) (by simp) (by simp) (.inl rfl) (by simp) (by simp) ?_
        try simp [h1, h1_, h17, h17_, h49, h49_, h50, h51, h51_, h52, h53, h54, h53_, h55, h56, h57, h57_, h56_, h57z, h58, h59, h60, h59_, h61, h62, h63, h63_, h62_, h64, h65, h66, h65_, h67, h68, h69, h69_, h68_, h73, h74, h75, h74_, h76, h77, h78, h78_, h77_, h79, h80, h81, h80_, h82, h83, h84, h84_, h83_, h85, h86, h87, h86_, h88, h89, h90, h90_, h89_, h91, h92, h93, h92_, h94, h95, h96, h96_, h95_]
        repeat' apply And.intro
        try any_goals (first | omega | (unfold maxLen; omega) | (simp [h1, h1_, h17, h17_, h49, h49_, h50, h51, h51_, h52, h53, h54, h53_, h55, h56, h57, h57_, h56_, h57z, h58, h59, h60, h59_, h61, h62, h63, h63_, h62_, h64, h65, h66, h65_, h67, h68, h69, h69_, h68_, h73, h74, h75, h74_, h76, h77, h78, h78_, h77_, h79, h80, h81, h80_, h82, h83, h84, h84_, h83_, h85, h86, h87, h86_, h88, h89, h90, h90_, h89_, h91, h92, h93, h92_, h94, h95, h96, h96_, h95_]; done))
        obtain ⟨v34, h99, hF⟩ := bnd1_elim hF
        refine aCall_l (w_digest_state_block_1 k _ _ _ h99) (by simp) [] [] [] rfl (.cons (.same (by simp [h1, h1_, h17, h17_, h49, h49_, h50, h51, h51_, h52, h53, h54, h53_, h55, h56, h57, h57_, h56_, h57z, h58, h59, h60, h59_, h61, h62, h63, h63_, h62_, h64, h65, h66, h65_, h67, h68, h69, h69_, h68_, h73, h74, h75, h74_, h76, h77, h78, h78_, h77_, h79, h80, h81, h80_, h82, h83, h84, h84_, h83_, h85, h86, h87, h86_, h88, h89, h90, h90_, h89_, h91, h92, h93, h92_, h94, h95, h96, h96_, h95_])) (.cons (.same (by simp [h1, h1_, h17, h17_, h49, h49_, h50, h51, h51_, h52, h53, h54, h53_, h55, h56, h57, h57_, h56_, h57z, h58, h59, h60, h59_, h61, h62, h63, h63_, h62_, h64, h65, h66, h65_, h67, h68, h69, h69_, h68_, h73, h74, h75, h74_, h76, h77, h78, h78_, h77_, h79, h80, h81, h80_, h82, h83, h84, h84_, h83_, h85, h86, h87, h86_, h88, h89, h90, h90_, h89_, h91, h92, h93, h92_, h94, h95, h96, h96_, h95_])) .nil)) (by simp [h1, h1_, h17, h17_, h49, h49_, h50, h51, h51_, h52, h53, h54, h53_, h55, h56, h57, h57_, h56_, h57z, h58, h59, h60, h59_, h61, h62, h63, h63_, h62_, h64, h65, h66, h65_, h67, h68, h69, h69_, h68_, h73, h74, h75, h74_, h76, h77, h78, h78_, h77_, h79, h80, h81, h80_, h82, h83, h84, h84_, h83_, h85, h86, h87, h86_, h88, h89, h90, h90_, h89_, h91, h92, h93, h92_, h94, h95, h96, h96_, h95_]) (by decide) (by simp) (by simp) (.inl rfl) (by simp) (by simp) ?_
        obtain ⟨⟨h100, h102, h101⟩, hF⟩ := chk_elim hF
        have h101_ := ne_of_lt h101
        obtain ⟨v35, h103, h104, h105, hF⟩ := idx_elim hF
        have h105_ := get_of h105
        try simp at h105_
        have h104_ := h104
        try simp at h104_
        obtain ⟨⟨h106, h108, h107⟩, hF⟩ := chk_elim hF
        have h107_ := ne_of_lt h107
        obtain ⟨v36, h109, h110, h111, hF⟩ := idx_elim hF
        have h111_ := get_of h111
        try simp at h111_
        have h110_ := h110
        try simp at h110_
        obtain ⟨⟨h112, h114, h113⟩, hF⟩ := chk_elim hF
        have h113_ := ne_of_lt h113
        obtain ⟨⟨h115, h117, h116⟩, hF⟩ := chk_elim hF
        have h116_ := ne_of_lt h116
        try simp [h1, h1_, h17, h17_, h49, h49_, h50, h51, h51_, h52, h53, h54, h53_, h55, h56, h57, h57_, h56_, h57z, h58, h59, h60, h59_, h61, h62, h63, h63_, h62_, h64, h65, h66, h65_, h67, h68, h69, h69_, h68_, h73, h74, h75, h74_, h76, h77, h78, h78_, h77_, h79, h80, h81, h80_, h82, h83, h84, h84_, h83_, h85, h86, h87, h86_, h88, h89, h90, h90_, h89_, h91, h92, h93, h92_, h94, h95, h96, h96_, h95_, h100, h101, h102, h101_, h103, h104, h105, h105_, h104_, h106, h107, h108, h107_, h109, h110, h111, h111_, h110_, h112, h113, h114, h113_, h115, h116, h117, h116_]
        repeat' apply And.intro
        any_goals (first | exact hG564 _ (by kernel_rfl) | refine hR564 _ _ _ ?_ | omega | (unfold maxLen; omega) | (simp [h1, h1_, h17, h17_, h49, h49_, h50, h51, h51_, h52, h53, h54, h53_, h55, h56, h57, h57_, h56_, h57z, h58, h59, h60, h59_, h61, h62, h63, h63_, h62_, h64, h65, h66, h65_, h67, h68, h69, h69_, h68_, h73, h74, h75, h74_, h76, h77, h78, h78_, h77_, h79, h80, h81, h80_, h82, h83, h84, h84_, h83_, h85, h86, h87, h86_, h88, h89, h90, h90_, h89_, h91, h92, h93, h92_, h94, h95, h96, h96_, h95_, h100, h101, h102, h101_, h103, h104, h105, h105_, h104_, h106, h107, h108, h107_, h109, h110, h111, h111_, h110_, h112, h113, h114, h113_, h115, h116, h117, h116_]; done) | (simp [h1, h1_, h17, h17_, h49, h49_, h50, h51, h51_, h52, h53, h54, h53_, h55, h56, h57, h57_, h56_, h57z, h58, h59, h60, h59_, h61, h62, h63, h63_, h62_, h64, h65, h66, h65_, h67, h68, h69, h69_, h68_, h73, h74, h75, h74_, h76, h77, h78, h78_, h77_, h79, h80, h81, h80_, h82, h83, h84, h84_, h83_, h85, h86, h87, h86_, h88, h89, h90, h90_, h89_, h91, h92, h93, h92_, h94, h95, h96, h96_, h95_, h100, h101, h102, h101_, h103, h104, h105, h105_, h104_, h106, h107, h108, h107_, h109, h110, h111, h111_, h110_, h112, h113, h114, h113_, h115, h116, h117, h116_]; omega))
        refine AW.wk [(0, AV.ptr 0 0), (2, AV.ptr 1 0), (6, AV.ptr 2 0), (8, AV.fn 93 []), (12, AV.ptr 3 0), (16, AV.int .u32 (IntKind.wrap .u32 (IntKind.wrap .u32 (IntKind.wrap .u32 (IntKind.wrap .u32 (v24 + bitsV .xor .u32 (bitsV .xor .u32 v25 v26) v27) + bitsV .xor .u32 (bitsV .and .u32 v23 v28) (bitsV .and .u32 (bitsV .xor .u32 (IntKind.max .u32) v23) v29)) + v30) + v31))), (17, AV.int .u32 (IntKind.wrap .u32 (bitsV .xor .u32 (bitsV .xor .u32 v32 v33) v34 + bitsV .xor .u32 (bitsV .xor .u32 (bitsV .and .u32 v22 v35) (bitsV .and .u32 v22 v36)) (bitsV .and .u32 v35 v36)))), (106, AV.int .i64 v20)] [(0, .cells (List.map (AV.int .u32) v0)), (1, .cells (List.map (AV.int .u32) v2)), (2, .cells (List.map (AV.int .u32) v11)), (3, .cells (List.map (AV.int .u32) v21))] 4 (by simp [h1, h1_, h17, h17_, h49, h49_, h50, h51, h51_, h52, h53, h54, h53_, h55, h56, h57, h57_, h56_, h57z, h58, h59, h60, h59_, h61, h62, h63, h63_, h62_, h64, h65, h66, h65_, h67, h68, h69, h69_, h68_, h73, h74, h75, h74_, h76, h77, h78, h78_, h77_, h79, h80, h81, h80_, h82, h83, h84, h84_, h83_, h85, h86, h87, h86_, h88, h89, h90, h90_, h89_, h91, h92, h93, h92_, h94, h95, h96, h96_, h95_, h100, h101, h102, h101_, h103, h104, h105, h105_, h104_, h106, h107, h108, h107_, h109, h110, h111, h111_, h110_, h112, h113, h114, h113_, h115, h116, h117, h116_]) (by simp [h1, h1_, h17, h17_, h49, h49_, h50, h51, h51_, h52, h53, h54, h53_, h55, h56, h57, h57_, h56_, h57z, h58, h59, h60, h59_, h61, h62, h63, h63_, h62_, h64, h65, h66, h65_, h67, h68, h69, h69_, h68_, h73, h74, h75, h74_, h76, h77, h78, h78_, h77_, h79, h80, h81, h80_, h82, h83, h84, h84_, h83_, h85, h86, h87, h86_, h88, h89, h90, h90_, h89_, h91, h92, h93, h92_, h94, h95, h96, h96_, h95_, h100, h101, h102, h101_, h103, h104, h105, h105_, h104_, h106, h107, h108, h107_, h109, h110, h111, h111_, h110_, h112, h113, h114, h113_, h115, h116, h117, h116_]) (by simp) ?_
        refine AW.region mixed [] [none, none, none, none, none, none, none, none, none, none, none, none, none, none, none, none, none, none, none, none, none] (by kernel_rfl) fun G565 R565 hG565 hR565 => ?_
        obtain ⟨⟨h118, h120, h119⟩, hF⟩ := chk_elim hF
        have h119_ := ne_of_lt h119
        obtain ⟨⟨h121, h123, h122⟩, hF⟩ := chk_elim hF
        have h122_ := ne_of_lt h122
        obtain ⟨⟨h124, h126, h125⟩, hF⟩ := chk_elim hF
        have h125_ := ne_of_lt h125
        obtain ⟨⟨h127, h129, h128⟩, hF⟩ := chk_elim hF
        have h128_ := ne_of_lt h128
        obtain ⟨v37, h130, h131, h132, hF⟩ := idx_elim hF
        have h132_ := get_of h132
        try simp at h132_
        have h131_ := h131
        try simp at h131_
        obtain ⟨⟨h133, h135, h134⟩, hF⟩ := chk_elim hF
        have h134_ := ne_of_lt h134
        obtain ⟨⟨h136, h138, h137⟩, hF⟩ := chk_elim hF
        have h137_ := ne_of_lt h137
        obtain ⟨⟨h139, h141, h140⟩, hF⟩ := chk_elim hF
        have h140_ := ne_of_lt h140
        obtain ⟨h142, hF⟩ := chk_elim hF
        try simp [h1, h1_, h17, h17_, h49, h49_, h50, h51, h51_, h52, h53, h54, h53_, h55, h56, h57, h57_, h56_, h57z, h58, h59, h60, h59_, h61, h62, h63, h63_, h62_, h64, h65, h66, h65_, h67, h68, h69, h69_, h68_, h73, h74, h75, h74_, h76, h77, h78, h78_, h77_, h79, h80, h81, h80_, h82, h83, h84, h84_, h83_, h85, h86, h87, h86_, h88, h89, h90, h90_, h89_, h91, h92, h93, h92_, h94, h95, h96, h96_, h95_, h100, h101, h102, h101_, h103, h104, h105, h105_, h104_, h106, h107, h108, h107_, h109, h110, h111, h111_, h110_, h112, h113, h114, h113_, h115, h116, h117, h116_, h118, h119, h120, h119_, h121, h122, h123, h122_, h124, h125, h126, h125_, h127, h128, h129, h128_, h130, h131, h132, h132_, h131_, h133, h134, h135, h134_, h136, h137, h138, h137_, h139, h140, h141, h140_, h142]
        repeat' apply And.intro
        any_goals (first | exact hG565 _ (by kernel_rfl) | refine hR565 _ _ _ ?_ | omega | (unfold maxLen; omega) | (simp [h1, h1_, h17, h17_, h49, h49_, h50, h51, h51_, h52, h53, h54, h53_, h55, h56, h57, h57_, h56_, h57z, h58, h59, h60, h59_, h61, h62, h63, h63_, h62_, h64, h65, h66, h65_, h67, h68, h69, h69_, h68_, h73, h74, h75, h74_, h76, h77, h78, h78_, h77_, h79, h80, h81, h80_, h82, h83, h84, h84_, h83_, h85, h86, h87, h86_, h88, h89, h90, h90_, h89_, h91, h92, h93, h92_, h94, h95, h96, h96_, h95_, h100, h101, h102, h101_, h103, h104, h105, h105_, h104_, h106, h107, h108, h107_, h109, h110, h111, h111_, h110_, h112, h113, h114, h113_, h115, h116, h117, h116_, h118, h119, h120, h119_, h121, h122, h123, h122_, h124, h125, h126, h125_, h127, h128, h129, h128_, h130, h131, h132, h132_, h131_, h133, h134, h135, h134_, h136, h137, h138, h137_, h139, h140, h141, h140_, h142]; done) | (simp [h1, h1_, h17, h17_, h49, h49_, h50, h51, h51_, h52, h53, h54, h53_, h55, h56, h57, h57_, h56_, h57z, h58, h59, h60, h59_, h61, h62, h63, h63_, h62_, h64, h65, h66, h65_, h67, h68, h69, h69_, h68_, h73, h74, h75, h74_, h76, h77, h78, h78_, h77_, h79, h80, h81, h80_, h82, h83, h84, h84_, h83_, h85, h86, h87, h86_, h88, h89, h90, h90_, h89_, h91, h92, h93, h92_, h94, h95, h96, h96_, h95_, h100, h101, h102, h101_, h103, h104, h105, h105_, h104_, h106, h107, h108, h107_, h109, h110, h111, h111_, h110_, h112, h113, h114, h113_, h115, h116, h117, h116_, h118, h119, h120, h119_, h121, h122, h123, h122_, h124, h125, h126, h125_, h127, h128, h129, h128_, h130, h131, h132, h132_, h131_, h133, h134, h135, h134_, h136, h137, h138, h137_, h139, h140, h141, h140_, h142]; omega))
        refine hK560 _ _ _ ?_
        refine AW.wk [(0, AV.ptr 0 0), (2, AV.ptr 1 0), (6, AV.ptr 2 0), (8, AV.fn 93 []), (12, AV.ptr 3 0), (106, AV.int .i64 v20)] [(0, .cells (List.map (AV.int .u32) v0)), (1, .cells (List.map (AV.int .u32) v2)), (2, .cells (List.map (AV.int .u32) v11)), (3, .cells (List.map (AV.int .u32) ([IntKind.wrap .u32 (IntKind.wrap .u32 (IntKind.wrap .u32 (IntKind.wrap .u32 (IntKind.wrap .u32 (v24 + bitsV .xor .u32 (bitsV .xor .u32 v25 v26) v27) + bitsV .xor .u32 (bitsV .and .u32 v23 v28) (bitsV .and .u32 (bitsV .xor .u32 (IntKind.max .u32) v23) v29)) + v30) + v31) + IntKind.wrap .u32 (bitsV .xor .u32 (bitsV .xor .u32 v32 v33) v34 + bitsV .xor .u32 (bitsV .xor .u32 (bitsV .and .u32 v22 v35) (bitsV .and .u32 v22 v36)) (bitsV .and .u32 v35 v36))), v22, v35, v36, IntKind.wrap .u32 (v37 + IntKind.wrap .u32 (IntKind.wrap .u32 (IntKind.wrap .u32 (IntKind.wrap .u32 (v24 + bitsV .xor .u32 (bitsV .xor .u32 v25 v26) v27) + bitsV .xor .u32 (bitsV .and .u32 v23 v28) (bitsV .and .u32 (bitsV .xor .u32 (IntKind.max .u32) v23) v29)) + v30) + v31)), v23, v28, v29] : List Int)))] 4 (by simp [h1, h1_, h17, h17_, h49, h49_, h50, h51, h51_, h52, h53, h54, h53_, h55, h56, h57, h57_, h56_, h57z, h58, h59, h60, h59_, h61, h62, h63, h63_, h62_, h64, h65, h66, h65_, h67, h68, h69, h69_, h68_, h73, h74, h75, h74_, h76, h77, h78, h78_, h77_, h79, h80, h81, h80_, h82, h83, h84, h84_, h83_, h85, h86, h87, h86_, h88, h89, h90, h90_, h89_, h91, h92, h93, h92_, h94, h95, h96, h96_, h95_, h100, h101, h102, h101_, h103, h104, h105, h105_, h104_, h106, h107, h108, h107_, h109, h110, h111, h111_, h110_, h112, h113, h114, h113_, h115, h116, h117, h116_, h118, h119, h120, h119_, h121, h122, h123, h122_, h124, h125, h126, h125_, h127, h128, h129, h128_, h130, h131, h132, h132_, h131_, h133, h134, h135, h134_, h136, h137, h138, h137_, h139, h140, h141, h140_, h142]) (by simp [h1, h1_, h17, h17_, h49, h49_, h50, h51, h51_, h52, h53, h54, h53_, h55, h56, h57, h57_, h56_, h57z, h58, h59, h60, h59_, h61, h62, h63, h63_, h62_, h64, h65, h66, h65_, h67, h68, h69, h69_, h68_, h73, h74, h75, h74_, h76, h77, h78, h78_, h77_, h79, h80, h81, h80_, h82, h83, h84, h84_, h83_, h85, h86, h87, h86_, h88, h89, h90, h90_, h89_, h91, h92, h93, h92_, h94, h95, h96, h96_, h95_, h100, h101, h102, h101_, h103, h104, h105, h105_, h104_, h106, h107, h108, h107_, h109, h110, h111, h111_, h110_, h112, h113, h114, h113_, h115, h116, h117, h116_, h118, h119, h120, h119_, h121, h122, h123, h122_, h124, h125, h126, h125_, h127, h128, h129, h128_, h130, h131, h132, h132_, h131_, h133, h134, h135, h134_, h136, h137, h138, h137_, h139, h140, h141, h140_, h142]) (by simp) ?_
        refine AW.region mixed [] [none, none] (by kernel_rfl) fun G566 R566 hG566 hR566 => ?_
        try simp [h1, h1_, h17, h17_, h49, h49_, h50, h51, h51_, h52, h53, h54, h53_, h55, h56, h57, h57_, h56_, h57z, h58, h59, h60, h59_, h61, h62, h63, h63_, h62_, h64, h65, h66, h65_, h67, h68, h69, h69_, h68_, h73, h74, h75, h74_, h76, h77, h78, h78_, h77_, h79, h80, h81, h80_, h82, h83, h84, h84_, h83_, h85, h86, h87, h86_, h88, h89, h90, h90_, h89_, h91, h92, h93, h92_, h94, h95, h96, h96_, h95_, h100, h101, h102, h101_, h103, h104, h105, h105_, h104_, h106, h107, h108, h107_, h109, h110, h111, h111_, h110_, h112, h113, h114, h113_, h115, h116, h117, h116_, h118, h119, h120, h119_, h121, h122, h123, h122_, h124, h125, h126, h125_, h127, h128, h129, h128_, h130, h131, h132, h132_, h131_, h133, h134, h135, h134_, h136, h137, h138, h137_, h139, h140, h141, h140_, h142]
        repeat' apply And.intro
        any_goals (first | exact hG566 _ (by kernel_rfl) | refine hR566 _ _ _ ?_ | omega | (unfold maxLen; omega) | (simp [h1, h1_, h17, h17_, h49, h49_, h50, h51, h51_, h52, h53, h54, h53_, h55, h56, h57, h57_, h56_, h57z, h58, h59, h60, h59_, h61, h62, h63, h63_, h62_, h64, h65, h66, h65_, h67, h68, h69, h69_, h68_, h73, h74, h75, h74_, h76, h77, h78, h78_, h77_, h79, h80, h81, h80_, h82, h83, h84, h84_, h83_, h85, h86, h87, h86_, h88, h89, h90, h90_, h89_, h91, h92, h93, h92_, h94, h95, h96, h96_, h95_, h100, h101, h102, h101_, h103, h104, h105, h105_, h104_, h106, h107, h108, h107_, h109, h110, h111, h111_, h110_, h112, h113, h114, h113_, h115, h116, h117, h116_, h118, h119, h120, h119_, h121, h122, h123, h122_, h124, h125, h126, h125_, h127, h128, h129, h128_, h130, h131, h132, h132_, h131_, h133, h134, h135, h134_, h136, h137, h138, h137_, h139, h140, h141, h140_, h142]; done) | (simp [h1, h1_, h17, h17_, h49, h49_, h50, h51, h51_, h52, h53, h54, h53_, h55, h56, h57, h57_, h56_, h57z, h58, h59, h60, h59_, h61, h62, h63, h63_, h62_, h64, h65, h66, h65_, h67, h68, h69, h69_, h68_, h73, h74, h75, h74_, h76, h77, h78, h78_, h77_, h79, h80, h81, h80_, h82, h83, h84, h84_, h83_, h85, h86, h87, h86_, h88, h89, h90, h90_, h89_, h91, h92, h93, h92_, h94, h95, h96, h96_, h95_, h100, h101, h102, h101_, h103, h104, h105, h105_, h104_, h106, h107, h108, h107_, h109, h110, h111, h111_, h110_, h112, h113, h114, h113_, h115, h116, h117, h116_, h118, h119, h120, h119_, h121, h122, h123, h122_, h124, h125, h126, h125_, h127, h128, h129, h128_, h130, h131, h132, h132_, h131_, h133, h134, h135, h134_, h136, h137, h138, h137_, h139, h140, h141, h140_, h142]; omega))
        refine hK552 _ _ _ ?_
        refine Can.weak [(0, AV.ptr 0 0), (2, AV.ptr 1 0), (6, AV.ptr 2 0), (8, AV.fn 93 []), (12, AV.ptr 3 0), (106, AV.int .i64 (IntKind.wrap .i64 (v20 + 1)))] [(0, .cells (List.map (AV.int .u32) v0)), (1, .cells (List.map (AV.int .u32) v2)), (2, .cells (List.map (AV.int .u32) v11)), (3, .cells (List.map (AV.int .u32) ([IntKind.wrap .u32 (IntKind.wrap .u32 (IntKind.wrap .u32 (IntKind.wrap .u32 (IntKind.wrap .u32 (v24 + bitsV .xor .u32 (bitsV .xor .u32 v25 v26) v27) + bitsV .xor .u32 (bitsV .and .u32 v23 v28) (bitsV .and .u32 (bitsV .xor .u32 (IntKind.max .u32) v23) v29)) + v30) + v31) + IntKind.wrap .u32 (bitsV .xor .u32 (bitsV .xor .u32 v32 v33) v34 + bitsV .xor .u32 (bitsV .xor .u32 (bitsV .and .u32 v22 v35) (bitsV .and .u32 v22 v36)) (bitsV .and .u32 v35 v36))), v22, v35, v36, IntKind.wrap .u32 (v37 + IntKind.wrap .u32 (IntKind.wrap .u32 (IntKind.wrap .u32 (IntKind.wrap .u32 (v24 + bitsV .xor .u32 (bitsV .xor .u32 v25 v26) v27) + bitsV .xor .u32 (bitsV .and .u32 v23 v28) (bitsV .and .u32 (bitsV .xor .u32 (IntKind.max .u32) v23) v29)) + v30) + v31)), v23, v28, v29] : List Int)))] 4 (by simp [h1, h1_, h17, h17_, h49, h49_, h50, h51, h51_, h52, h53, h54, h53_, h55, h56, h57, h57_, h56_, h57z, h58, h59, h60, h59_, h61, h62, h63, h63_, h62_, h64, h65, h66, h65_, h67, h68, h69, h69_, h68_, h73, h74, h75, h74_, h76, h77, h78, h78_, h77_, h79, h80, h81, h80_, h82, h83, h84, h84_, h83_, h85, h86, h87, h86_, h88, h89, h90, h90_, h89_, h91, h92, h93, h92_, h94, h95, h96, h96_, h95_, h100, h101, h102, h101_, h103, h104, h105, h105_, h104_, h106, h107, h108, h107_, h109, h110, h111, h111_, h110_, h112, h113, h114, h113_, h115, h116, h117, h116_, h118, h119, h120, h119_, h121, h122, h123, h122_, h124, h125, h126, h125_, h127, h128, h129, h128_, h130, h131, h132, h132_, h131_, h133, h134, h135, h134_, h136, h137, h138, h137_, h139, h140, h141, h140_, h142]) (by simp [h1, h1_, h17, h17_, h49, h49_, h50, h51, h51_, h52, h53, h54, h53_, h55, h56, h57, h57_, h56_, h57z, h58, h59, h60, h59_, h61, h62, h63, h63_, h62_, h64, h65, h66, h65_, h67, h68, h69, h69_, h68_, h73, h74, h75, h74_, h76, h77, h78, h78_, h77_, h79, h80, h81, h80_, h82, h83, h84, h84_, h83_, h85, h86, h87, h86_, h88, h89, h90, h90_, h89_, h91, h92, h93, h92_, h94, h95, h96, h96_, h95_, h100, h101, h102, h101_, h103, h104, h105, h105_, h104_, h106, h107, h108, h107_, h109, h110, h111, h111_, h110_, h112, h113, h114, h113_, h115, h116, h117, h116_, h118, h119, h120, h119_, h121, h122, h123, h122_, h124, h125, h126, h125_, h127, h128, h129, h128_, h130, h131, h132, h132_, h131_, h133, h134, h135, h134_, h136, h137, h138, h137_, h139, h140, h141, h140_, h142]) (by simp) ?_
        exact Can.next (k' := n3) ((IntKind.wrap .i64 (v20 + 1), ([IntKind.wrap .u32 (IntKind.wrap .u32 (IntKind.wrap .u32 (IntKind.wrap .u32 (IntKind.wrap .u32 (v24 + bitsV .xor .u32 (bitsV .xor .u32 v25 v26) v27) + bitsV .xor .u32 (bitsV .and .u32 v23 v28) (bitsV .and .u32 (bitsV .xor .u32 (IntKind.max .u32) v23) v29)) + v30) + v31) + IntKind.wrap .u32 (bitsV .xor .u32 (bitsV .xor .u32 v32 v33) v34 + bitsV .xor .u32 (bitsV .xor .u32 (bitsV .and .u32 v22 v35) (bitsV .and .u32 v22 v36)) (bitsV .and .u32 v35 v36))), v22, v35, v36, IntKind.wrap .u32 (v37 + IntKind.wrap .u32 (IntKind.wrap .u32 (IntKind.wrap .u32 (IntKind.wrap .u32 (v24 + bitsV .xor .u32 (bitsV .xor .u32 v25 v26) v27) + bitsV .xor .u32 (bitsV .and .u32 v23 v28) (bitsV .and .u32 (bitsV .xor .u32 (IntKind.max .u32) v23) v29)) + v30) + v31)), v23, v28, v29] : List Int))) (by omega) hF (by simp [h1, h1_, h17, h17_, h49, h49_, h50, h51, h51_, h52, h53, h54, h53_, h55, h56, h57, h57_, h56_, h57z, h58, h59, h60, h59_, h61, h62, h63, h63_, h62_, h64, h65, h66, h65_, h67, h68, h69, h69_, h68_, h73, h74, h75, h74_, h76, h77, h78, h78_, h77_, h79, h80, h81, h80_, h82, h83, h84, h84_, h83_, h85, h86, h87, h86_, h88, h89, h90, h90_, h89_, h91, h92, h93, h92_, h94, h95, h96, h96_, h95_, h100, h101, h102, h101_, h103, h104, h105, h105_, h104_, h106, h107, h108, h107_, h109, h110, h111, h111_, h110_, h112, h113, h114, h113_, h115, h116, h117, h116_, h118, h119, h120, h119_, h121, h122, h123, h122_, h124, h125, h126, h125_, h127, h128, h129, h128_, h130, h131, h132, h132_, h131_, h133, h134, h135, h134_, h136, h137, h138, h137_, h139, h140, h141, h140_, h142]) (by simp [h1, h1_, h17, h17_, h49, h49_, h50, h51, h51_, h52, h53, h54, h53_, h55, h56, h57, h57_, h56_, h57z, h58, h59, h60, h59_, h61, h62, h63, h63_, h62_, h64, h65, h66, h65_, h67, h68, h69, h69_, h68_, h73, h74, h75, h74_, h76, h77, h78, h78_, h77_, h79, h80, h81, h80_, h82, h83, h84, h84_, h83_, h85, h86, h87, h86_, h88, h89, h90, h90_, h89_, h91, h92, h93, h92_, h94, h95, h96, h96_, h95_, h100, h101, h102, h101_, h103, h104, h105, h105_, h104_, h106, h107, h108, h107_, h109, h110, h111, h111_, h110_, h112, h113, h114, h113_, h115, h116, h117, h116_, h118, h119, h120, h119_, h121, h122, h123, h122_, h124, h125, h126, h125_, h127, h128, h129, h128_, h130, h131, h132, h132_, h131_, h133, h134, h135, h134_, h136, h137, h138, h137_, h139, h140, h141, h140_, h142]) (by simp)
      · replace hF := ite_f h51 hF
        have h51_ := h51
        try simp at h51_
        refine AW.condF (by decide) (by first | (simp [h1, h1_, h17, h17_, h49, h49_, h50, h51, h51_]; done) | (simp [h1, h1_, h17, h17_, h49, h49_, h50, h51, h51_]; omega)) ?_
        refine AW.exit ?_
        try simp
        refine hK508 _ _ _ ?_
        refine AW.seqR mixed [] [none] (by kernel_rfl) fun G567 R567 hG567 hR567 => ?_
        try simp [h1, h1_, h17, h17_, h49, h49_, h50, h51, h51_]
        repeat' apply And.intro
        any_goals (first | exact hG567 _ (by kernel_rfl) | refine hR567 _ _ _ ?_ | omega | (unfold maxLen; omega) | (simp [h1, h1_, h17, h17_, h49, h49_, h50, h51, h51_]; done) | (simp [h1, h1_, h17, h17_, h49, h49_, h50, h51, h51_]; omega))
        refine AW.wk [(0, AV.ptr 0 0), (12, AV.ptr 3 0), (196, AV.int .i64 0)] [(0, .cells (List.map (AV.int .u32) v0)), (1, .cells (List.map (AV.int .u32) v2)), (3, .cells (List.map (AV.int .u32) v21))] 4 (by simp [h1, h1_, h17, h17_, h49, h49_, h50, h51, h51_]) (by simp [h1, h1_, h17, h17_, h49, h49_, h50, h51, h51_]) (by simp) ?_
        refine AW.block ?_
        refine AW.rnm (m := 2) h0 [(0, 0), (1, 1), (2, 3)] [(0, AV.ptr 0 0), (12, AV.ptr 2 0), (196, AV.int .i64 0)] [(0, .cells (List.map (AV.int .u32) v0)), (1, .cells (List.map (AV.int .u32) v2)), (2, .cells (List.map (AV.int .u32) v21))] 3 (by decide) (by decide) (by decide) rfl (by simp [h1, h1_, h17, h17_, h49, h49_, h50, h51, h51_]) (by simp [h1, h1_, h17, h17_, h49, h49_, h50, h51, h51_]) ?_
        refine AW.loopF (α := (Int × (List Int))) (fun n (v38, v39) => digest_state_block.L4 k v21 n v38 v39 = some v3) (fun (v38, v39) => [(0, AV.ptr 0 0), (12, AV.ptr 2 0), (196, AV.int .i64 v38)]) (fun (v38, v39) => [(0, .cells (List.map (AV.int .u32) v39)), (1, .cells (List.map (AV.int .u32) v2)), (2, .cells (List.map (AV.int .u32) v21))]) 3 k ((0, v0)) hF (by simp [h1, h1_, h17, h17_, h49, h49_, h50, h51, h51_]) (by simp [h1, h1_, h17, h17_, h49, h49_, h50, h51, h51_]) (by simp) ?_
        rintro (_|n4) ⟨v38, v39⟩ hF K592 hK592
        · try dsimp only at hF
          rw [digest_state_block.L4] at hF; cases hF
        try dsimp only at hF
        rw [digest_state_block.L4] at hF
        refine AW.seqR mixed [] [none] (by kernel_rfl) fun G593 R593 hG593 hR593 => ?_
        try simp [h1, h1_, h17, h17_, h49, h49_, h50, h51, h51_]
        repeat' apply And.intro
        any_goals (first | exact hG593 _ (by kernel_rfl) | refine hR593 _ _ _ ?_ | omega | (unfold maxLen; omega) | (simp [h1, h1_, h17, h17_, h49, h49_, h50, h51, h51_]; done) | (simp [h1, h1_, h17, h17_, h49, h49_, h50, h51, h51_]; omega))
        refine AW.wk [(0, AV.ptr 0 0), (12, AV.ptr 2 0), (196, AV.int .i64 v38), (197, AV.bool (decide (v38 < 8)))] [(0, .cells (List.map (AV.int .u32) v39)), (1, .cells (List.map (AV.int .u32) v2)), (2, .cells (List.map (AV.int .u32) v21))] 3 (by simp [h1, h1_, h17, h17_, h49, h49_, h50, h51, h51_]) (by simp [h1, h1_, h17, h17_, h49, h49_, h50, h51, h51_]) (by simp) ?_
        refine AW.seq fun K594 hK594 => ?_
        by_cases h143 : v38 < 8
        · replace hF := ite_t h143 hF
          have h143_ := h143
          try simp at h143_
          refine AW.condT (by decide) (by first | (simp [h1, h1_, h17, h17_, h49, h49_, h50, h51, h51_, h143, h143_]; done) | (simp [h1, h1_, h17, h17_, h49, h49_, h50, h51, h51_, h143, h143_]; omega)) ?_
          refine AW.skip ?_
          refine hK594 _ _ _ ?_
          refine AW.seq fun K597 hK597 => ?_
          refine AW.block ?_
          refine AW.seqR mixed [] [none, none] (by kernel_rfl) fun G598 R598 hG598 hR598 => ?_
          try simp [h1, h1_, h17, h17_, h49, h49_, h50, h51, h51_, h143, h143_]
          repeat' apply And.intro
          any_goals (first | exact hG598 _ (by kernel_rfl) | refine hR598 _ _ _ ?_ | omega | (unfold maxLen; omega) | (simp [h1, h1_, h17, h17_, h49, h49_, h50, h51, h51_, h143, h143_]; done) | (simp [h1, h1_, h17, h17_, h49, h49_, h50, h51, h51_, h143, h143_]; omega))
          refine AW.wk [(0, AV.ptr 0 0), (12, AV.ptr 2 0), (18, AV.int .i64 v38), (196, AV.int .i64 v38)] [(0, .cells (List.map (AV.int .u32) v39)), (1, .cells (List.map (AV.int .u32) v2)), (2, .cells (List.map (AV.int .u32) v21))] 3 (by simp [h1, h1_, h17, h17_, h49, h49_, h50, h51, h51_, h143, h143_]) (by simp [h1, h1_, h17, h17_, h49, h49_, h50, h51, h51_, h143, h143_]) (by simp) ?_
          refine AW.region mixed [] [none, none, none, none, none, none, none, none, none, none, none, none] (by kernel_rfl) fun G599 R599 hG599 hR599 => ?_
          obtain ⟨⟨h144, h146, h145⟩, hF⟩ := chk_elim hF
          have h145_ := ne_of_lt h145
          obtain ⟨v40, h147, h148, h149, hF⟩ := idx_elim hF
          have h149_ := get_of h149
          try simp at h149_
          have h148_ := h148
          try simp at h148_
          obtain ⟨⟨h150, h152, h151⟩, hF⟩ := chk_elim hF
          have h151_ := ne_of_lt h151
          obtain ⟨v41, h153, h154, h155, hF⟩ := idx_elim hF
          have h155_ := get_of h155
          try simp at h155_
          have h154_ := h154
          try simp at h154_
          obtain ⟨⟨h156, h158, h157⟩, hF⟩ := chk_elim hF
          have h157_ := ne_of_lt h157
          try simp [h1, h1_, h17, h17_, h49, h49_, h50, h51, h51_, h143, h143_, h144, h145, h146, h145_, h147, h148, h149, h149_, h148_, h150, h151, h152, h151_, h153, h154, h155, h155_, h154_, h156, h157, h158, h157_]
          repeat' apply And.intro
          any_goals (first | exact hG599 _ (by kernel_rfl) | refine hR599 _ _ _ ?_ | omega | (unfold maxLen; omega) | (simp [h1, h1_, h17, h17_, h49, h49_, h50, h51, h51_, h143, h143_, h144, h145, h146, h145_, h147, h148, h149, h149_, h148_, h150, h151, h152, h151_, h153, h154, h155, h155_, h154_, h156, h157, h158, h157_]; done) | (simp [h1, h1_, h17, h17_, h49, h49_, h50, h51, h51_, h143, h143_, h144, h145, h146, h145_, h147, h148, h149, h149_, h148_, h150, h151, h152, h151_, h153, h154, h155, h155_, h154_, h156, h157, h158, h157_]; omega))
          refine hK597 _ _ _ ?_
          refine AW.wk [(0, AV.ptr 0 0), (12, AV.ptr 2 0), (196, AV.int .i64 v38)] [(0, .cells (List.map (AV.int .u32) (v39.set (v38).toNat (IntKind.wrap .u32 (v40 + v41))))), (1, .cells (List.map (AV.int .u32) v2)), (2, .cells (List.map (AV.int .u32) v21))] 3 (by simp [h1, h1_, h17, h17_, h49, h49_, h50, h51, h51_, h143, h143_, h144, h145, h146, h145_, h147, h148, h149, h149_, h148_, h150, h151, h152, h151_, h153, h154, h155, h155_, h154_, h156, h157, h158, h157_]) (by simp [h1, h1_, h17, h17_, h49, h49_, h50, h51, h51_, h143, h143_, h144, h145, h146, h145_, h147, h148, h149, h149_, h148_, h150, h151, h152, h151_, h153, h154, h155, h155_, h154_, h156, h157, h158, h157_]) (by simp) ?_
          refine AW.region mixed [] [none, none] (by kernel_rfl) fun G600 R600 hG600 hR600 => ?_
          try simp [h1, h1_, h17, h17_, h49, h49_, h50, h51, h51_, h143, h143_, h144, h145, h146, h145_, h147, h148, h149, h149_, h148_, h150, h151, h152, h151_, h153, h154, h155, h155_, h154_, h156, h157, h158, h157_]
          repeat' apply And.intro
          any_goals (first | exact hG600 _ (by kernel_rfl) | refine hR600 _ _ _ ?_ | omega | (unfold maxLen; omega) | (simp [h1, h1_, h17, h17_, h49, h49_, h50, h51, h51_, h143, h143_, h144, h145, h146, h145_, h147, h148, h149, h149_, h148_, h150, h151, h152, h151_, h153, h154, h155, h155_, h154_, h156, h157, h158, h157_]; done) | (simp [h1, h1_, h17, h17_, h49, h49_, h50, h51, h51_, h143, h143_, h144, h145, h146, h145_, h147, h148, h149, h149_, h148_, h150, h151, h152, h151_, h153, h154, h155, h155_, h154_, h156, h157, h158, h157_]; omega))
          refine hK592 _ _ _ ?_
          refine Can.weak [(0, AV.ptr 0 0), (12, AV.ptr 2 0), (196, AV.int .i64 (IntKind.wrap .i64 (v38 + 1)))] [(0, .cells (List.map (AV.int .u32) (v39.set (v38).toNat (IntKind.wrap .u32 (v40 + v41))))), (1, .cells (List.map (AV.int .u32) v2)), (2, .cells (List.map (AV.int .u32) v21))] 3 (by simp [h1, h1_, h17, h17_, h49, h49_, h50, h51, h51_, h143, h143_, h144, h145, h146, h145_, h147, h148, h149, h149_, h148_, h150, h151, h152, h151_, h153, h154, h155, h155_, h154_, h156, h157, h158, h157_]) (by simp [h1, h1_, h17, h17_, h49, h49_, h50, h51, h51_, h143, h143_, h144, h145, h146, h145_, h147, h148, h149, h149_, h148_, h150, h151, h152, h151_, h153, h154, h155, h155_, h154_, h156, h157, h158, h157_]) (by simp) ?_
          exact Can.next (k' := n4) ((IntKind.wrap .i64 (v38 + 1), v39.set (v38).toNat (IntKind.wrap .u32 (v40 + v41)))) (by omega) hF (by simp [h1, h1_, h17, h17_, h49, h49_, h50, h51, h51_, h143, h143_, h144, h145, h146, h145_, h147, h148, h149, h149_, h148_, h150, h151, h152, h151_, h153, h154, h155, h155_, h154_, h156, h157, h158, h157_]) (by simp [h1, h1_, h17, h17_, h49, h49_, h50, h51, h51_, h143, h143_, h144, h145, h146, h145_, h147, h148, h149, h149_, h148_, h150, h151, h152, h151_, h153, h154, h155, h155_, h154_, h156, h157, h158, h157_]) (by simp)
        · replace hF := ite_f h143 hF
          have h143_ := h143
          try simp at h143_
          refine AW.condF (by decide) (by first | (simp [h1, h1_, h17, h17_, h49, h49_, h50, h51, h51_, h143, h143_]; done) | (simp [h1, h1_, h17, h17_, h49, h49_, h50, h51, h51_, h143, h143_]; omega)) ?_
          refine AW.exit ?_
          try simp
          simp only [Option.some.injEq] at hF
          subst hF
          refine (hQ _ _ _ ?_ (matchO_0 ?_)).2
          · simp [Try.f59, h1, h1_, h17, h17_, h49, h49_, h50, h51, h51_, h143, h143_]
          · simp [h1, h1_, h17, h17_, h49, h49_, h50, h51, h51_, h143, h143_]
end Go.TF
