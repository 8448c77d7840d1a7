/- Plain laws: SHA-256 of the program and of the reference agree. -/
import Derived.Test.YteclncnknklkfaaGaPros
set_option linter.unusedVariables false
set_option linter.unusedSimpArgs false
set_option maxRecDepth 4000
namespace Go.TF
open Go Go.Abs
theorem or_comm32 (a b : Int) : bitsV .or .u32 a b = bitsV .or .u32 b a := by
 simp only [bitsV]; rw [BitVec.or_comm]
def rotT (x : Int) (n : Nat) : Int := bitsV .or .u32 (Int.fdiv x (2 ^ n)) (IntKind.wrap .u32 (x * 2 ^ (32 - n)))
theorem rotr6 (k : Nat) (x : Int) : ref01_turn k x 6 = some (rotT x 6) := by
 unfold ref01_turn rotT
 rw [show IntKind.wrap .u64 (32 - (6 : Int)) = 26 by decide, chk_pos (by omega), chk_pos (by omega)]
 rfl
theorem rotr11 (k : Nat) (x : Int) : ref01_turn k x 11 = some (rotT x 11) := by
 unfold ref01_turn rotT
 rw [show IntKind.wrap .u64 (32 - (11 : Int)) = 21 by decide, chk_pos (by omega), chk_pos (by omega)]
 rfl
theorem rotr25 (k : Nat) (x : Int) : ref01_turn k x 25 = some (rotT x 25) := by
 unfold ref01_turn rotT
 rw [show IntKind.wrap .u64 (32 - (25 : Int)) = 7 by decide, chk_pos (by omega), chk_pos (by omega)]
 rfl
theorem rotr2 (k : Nat) (x : Int) : ref01_turn k x 2 = some (rotT x 2) := by
 unfold ref01_turn rotT
 rw [show IntKind.wrap .u64 (32 - (2 : Int)) = 30 by decide, chk_pos (by omega), chk_pos (by omega)]
 rfl
theorem rotr13 (k : Nat) (x : Int) : ref01_turn k x 13 = some (rotT x 13) := by
 unfold ref01_turn rotT
 rw [show IntKind.wrap .u64 (32 - (13 : Int)) = 19 by decide, chk_pos (by omega), chk_pos (by omega)]
 rfl
theorem rotr22 (k : Nat) (x : Int) : ref01_turn k x 22 = some (rotT x 22) := by
 unfold ref01_turn rotT
 rw [show IntKind.wrap .u64 (32 - (22 : Int)) = 10 by decide, chk_pos (by omega), chk_pos (by omega)]
 rfl
theorem rotr7 (k : Nat) (x : Int) : ref01_turn k x 7 = some (rotT x 7) := by
 unfold ref01_turn rotT
 rw [show IntKind.wrap .u64 (32 - (7 : Int)) = 25 by decide, chk_pos (by omega), chk_pos (by omega)]
 rfl
theorem rotr18 (k : Nat) (x : Int) : ref01_turn k x 18 = some (rotT x 18) := by
 unfold ref01_turn rotT
 rw [show IntKind.wrap .u64 (32 - (18 : Int)) = 14 by decide, chk_pos (by omega), chk_pos (by omega)]
 rfl
theorem rotr17 (k : Nat) (x : Int) : ref01_turn k x 17 = some (rotT x 17) := by
 unfold ref01_turn rotT
 rw [show IntKind.wrap .u64 (32 - (17 : Int)) = 15 by decide, chk_pos (by omega), chk_pos (by omega)]
 rfl
theorem rotr19 (k : Nat) (x : Int) : ref01_turn k x 19 = some (rotT x 19) := by
 unfold ref01_turn rotT
 rw [show IntKind.wrap .u64 (32 - (19 : Int)) = 13 by decide, chk_pos (by omega), chk_pos (by omega)]
 rfl
def w32 (x : Int) : Int := IntKind.wrap .u32 x
theorem w32_def (x : Int) : w32 x = x % 4294967296 := by simp [w32, IntKind.wrap]
theorem w32_add (a b : Int) : w32 (a + w32 b) = w32 (a + b) := by simp only [w32_def]; omega
theorem w32_add' (a b : Int) : w32 (w32 a + b) = w32 (a + b) := by simp only [w32_def]; omega
def word (b : List Int) (i : Nat) : Int :=
 bitsV .or .u32 (bitsV .or .u32 (bitsV .or .u32 (IntKind.wrap .u32 ((IntKind.wrap .u32 (b.getD (4 * i) 0)) * 2 ^ (24))) (IntKind.wrap .u32 ((IntKind.wrap .u32 (b.getD (4 * i + 1) 0)) * 2 ^ (16)))) (IntKind.wrap .u32 ((IntKind.wrap .u32 (b.getD (4 * i + 2) 0)) * 2 ^ (8)))) (IntKind.wrap .u32 (b.getD (4 * i + 3) 0))
def words (b : List Int) : Nat → Nat → List Int → List Int
 | 0, _, w => w
 | m + 1, i, w => words b m (i + 1) (w.set i (word b i))
theorem words_len (b : List Int) : ∀ (m i : Nat) (w : List Int), (words b m i w).length = w.length
 | 0, _, _ => rfl
 | m + 1, i, w => by rw [words, words_len]; simp
theorem getD_pos {l : List Int} {i : Nat} (h : i < l.length) : l[i] = l.getD i 0 := by simp [h]
theorem idx_getD {β : Type} {l : List Int} {i : Nat} {f : Int → Option β} (h : i < l.length) : idx l (i : Int) f = f (l.getD i 0) := by rw [idx_pos h, getD_pos h]
theorem w4 (i j : Nat) (h : i < 1000) (hj : j < 10) : IntKind.wrap .i64 (IntKind.wrap .i64 (4 * (i : Int)) + j) = ((4 * i + j : Nat) : Int) := by
 rw [w64 (n := 4 * (i : Int)) (by omega) (by omega), w64 (by omega) (by omega)]; omega
theorem w40 (i : Nat) (h : i < 1000) : IntKind.wrap .i64 (4 * (i : Int)) = ((4 * i : Nat) : Int) := by
 rw [w64 (by omega) (by omega)]; omega
theorem words_r (k : Nat) (v0 b v2 : List Int) (hb : b.length = 64) : ∀ (m i n : Nat) (w : List Int), i + m = 16 → m < n → w.length = 64 →
 ref01_block.L1 k v0 b v2 n (i : Int) w = ref01_block.L2 k v0 v2 k 16 (words b m i w)
 | 0, i, n + 1, w, h, _, hw => by rw [ref01_block.L1, if_neg (by omega)]; rfl
 | m + 1, i, n + 1, w, h, hn, hw => by
  rw [ref01_block.L1, if_pos (by omega), w40 i (by omega), idx_getD (by omega),
   show (IntKind.wrap .i64 (((4 * i : Nat) : Int) + 1)) = ((4 * i + 1 : Nat) : Int) by rw [w64 (by omega) (by omega)]; omega, idx_getD (by omega),
   show (IntKind.wrap .i64 (((4 * i : Nat) : Int) + 2)) = ((4 * i + 2 : Nat) : Int) by rw [w64 (by omega) (by omega)]; omega, idx_getD (by omega),
   show (IntKind.wrap .i64 (((4 * i : Nat) : Int) + 3)) = ((4 * i + 3 : Nat) : Int) by rw [w64 (by omega) (by omega)]; omega, idx_getD (by omega),
   chk_pos ⟨by omega, by rw [Int.toNat_natCast]; omega⟩, succ64 i (by omega), Int.toNat_natCast, words_r k v0 b v2 hb m (i + 1) n _ (by omega) (by omega) (by simp [hw])]
  rfl
def sig (w : List Int) (i : Nat) : Int :=
 IntKind.wrap .u32 (IntKind.wrap .u32 (IntKind.wrap .u32 (w.getD (i - 16) 0 + bitsV .xor .u32 (bitsV .xor .u32 (rotT (w.getD (i - 15) 0) 7) (rotT (w.getD (i - 15) 0) 18)) (Int.fdiv (w.getD (i - 15) 0) (2 ^ (3)))) + w.getD (i - 7) 0) + bitsV .xor .u32 (bitsV .xor .u32 (rotT (w.getD (i - 2) 0) 17) (rotT (w.getD (i - 2) 0) 19)) (Int.fdiv (w.getD (i - 2) 0) (2 ^ (10))))
def sched : Nat → Nat → List Int → List Int
 | 0, _, w => w
 | m + 1, i, w => sched m (i + 1) (w.set i (sig w i))
theorem sched_len : ∀ (m i : Nat) (w : List Int), (sched m i w).length = w.length
 | 0, _, _ => rfl
 | m + 1, i, w => by rw [sched, sched_len]; simp
theorem wsub (i j : Nat) (h : i < 1000) (hj : j ≤ i) : IntKind.wrap .i64 ((i : Int) - j) = ((i - j : Nat) : Int) := by rw [w64 (by omega) (by omega)]; omega
theorem sched_r (k : Nat) (v0 v2 : List Int) (h0 : v0.length = 8) : ∀ (m i n : Nat) (w : List Int), i + m = 64 → 16 ≤ i → m < n → w.length = 64 →
 ref01_block.L2 k v0 v2 n (i : Int) w = ref01_block.L3 k v0 v2 (sched m i w) k 0 v0
 | 0, i, n + 1, w, h, _, _, hw => by rw [ref01_block.L2, if_neg (by omega), chk_pos (by omega)]; rfl
 | m + 1, i, n + 1, w, h, hi, hn, hw => by
  have e15 := wsub i 15 (by omega) (by omega)
  have e2 := wsub i 2 (by omega) (by omega)
  have e16 := wsub i 16 (by omega) (by omega)
  have e7 := wsub i 7 (by omega) (by omega)
  simp only [Int.cast_ofNat_Int] at e15 e2 e16 e7
  have c : ∀ (j : Nat) (x : Option (List Int)), j < 64 → chk ((0 : Int) ≤ (j : Int) ∧ ((j : Int)).toNat < w.length) x = x := fun j x hj => chk_pos ⟨by omega, by rw [Int.toNat_natCast]; omega⟩
  rw [ref01_block.L2, if_pos (by omega), e15, e2, e16, e7, c _ _ (by omega), idx_getD (by omega), rotr7, bnd1_some, c _ _ (by omega), rotr18, bnd1_some, c _ _ (by omega), c _ _ (by omega), idx_getD (by omega), rotr17, bnd1_some,
   c _ _ (by omega), rotr19, bnd1_some, c _ _ (by omega), c _ _ (by omega), idx_getD (by omega), c _ _ (by omega), idx_getD (by omega), c _ _ (by omega), succ64 i (by omega), Int.toNat_natCast, sched_r k v0 v2 h0 m (i + 1) n _ (by omega) (by omega) (by omega) (by simp [hw])]
  rfl
def bigT (x : List Int) (kk ww : Int) : Int :=
 w32 (w32 (w32 (w32 (x.getD 7 0 + bitsV .xor .u32 (bitsV .xor .u32 (rotT (x.getD 4 0) 6) (rotT (x.getD 4 0) 11)) (rotT (x.getD 4 0) 25)) + bitsV .xor .u32 (bitsV .and .u32 (x.getD 4 0) (x.getD 5 0)) (bitsV .and .u32 (bitsV .xor .u32 (IntKind.max .u32) (x.getD 4 0)) (x.getD 6 0))) + kk) + ww)
def bigU (x : List Int) : Int :=
 bitsV .xor .u32 (bitsV .xor .u32 (rotT (x.getD 0 0) 2) (rotT (x.getD 0 0) 13)) (rotT (x.getD 0 0) 22) + bitsV .xor .u32 (bitsV .xor .u32 (bitsV .and .u32 (x.getD 0 0) (x.getD 1 0)) (bitsV .and .u32 (x.getD 0 0) (x.getD 2 0))) (bitsV .and .u32 (x.getD 1 0) (x.getD 2 0))
def step (x : List Int) (kk ww : Int) : List Int := [w32 (bigT x kk ww + bigU x), x.getD 0 0, x.getD 1 0, x.getD 2 0, w32 (x.getD 3 0 + bigT x kk ww), x.getD 4 0, x.getD 5 0, x.getD 6 0]
def rounds (v2 w : List Int) : Nat → Nat → List Int → List Int
 | 0, _, x => x
 | m + 1, i, x => rounds v2 w m (i + 1) (step x (v2.getD i 0) (w.getD i 0))
theorem rounds_len (v2 w : List Int) : ∀ (m i : Nat) (x : List Int), x.length = 8 → (rounds v2 w m i x).length = 8
 | 0, _, _, h => h
 | m + 1, i, x, h => rounds_len v2 w m (i + 1) _ rfl
theorem idxn {β : Type} {l : List Int} (j : Int) (h0 : 0 ≤ j) {f : Int → Option β} (h : j.toNat < l.length) : idx l j f = f (l.getD j.toNat 0) := by
 obtain ⟨i, rfl⟩ := Int.eq_ofNat_of_zero_le h0
 exact idx_getD h
theorem chk8 {x : Option (List Int)} {l : List Int} (h : l.length = 8) (j : Int) (m : Nat) (h0 : 0 ≤ j) (hj : j < 8) (hm : m < 8) : chk ((0 : Int) ≤ j ∧ m < 8 ∧ (j).toNat < l.length) x = x := chk_pos ⟨h0, hm, by omega⟩
theorem rounds_r (k : Nat) (v0 v2 w : List Int) (h2 : v2.length = 64) (hw : w.length = 64) : ∀ (m i n : Nat) (x : List Int), i + m = 64 → m < n → x.length = 8 →
 ref01_block.L3 k v0 v2 w n (i : Int) x = ref01_block.L4 k v0 k 0 (rounds v2 w m i x)
 | 0, i, n + 1, x, h, _, hx => by rw [ref01_block.L3, if_neg (by omega)]; rfl
 | m + 1, i, n + 1, x, h, hn, hx => by
  have i0 := fun f => idxn (β := List Int) (l := x) 0 (by omega) (f := f) (by omega)
  have i1 := fun f => idxn (β := List Int) (l := x) 1 (by omega) (f := f) (by omega)
  have i2 := fun f => idxn (β := List Int) (l := x) 2 (by omega) (f := f) (by omega)
  have i3 := fun f => idxn (β := List Int) (l := x) 3 (by omega) (f := f) (by omega)
  have i4 := fun f => idxn (β := List Int) (l := x) 4 (by omega) (f := f) (by omega)
  have i5 := fun f => idxn (β := List Int) (l := x) 5 (by omega) (f := f) (by omega)
  have i6 := fun f => idxn (β := List Int) (l := x) 6 (by omega) (f := f) (by omega)
  have i7 := fun f => idxn (β := List Int) (l := x) 7 (by omega) (f := f) (by omega)
  rw [ref01_block.L3, if_pos (by omega), i4, rotr6, bnd1_some, rotr11, bnd1_some, rotr25, bnd1_some, i5, i6, i7, idx_getD (by omega), idx_getD (by omega), i0, rotr2, bnd1_some, rotr13, bnd1_some, rotr22, bnd1_some, i1, i2, i3, succ64 i (by omega),
   rounds_r k v0 v2 w h2 hw m (i + 1) n _ (by omega) (by omega) rfl, rounds]
  have e : ∀ a b c : Int, IntKind.wrap .u32 (IntKind.wrap .u32 (a + b) + c) = w32 (a + (b + c)) := fun a b c => by
   show w32 (w32 (a + b) + c) = _
   rw [w32_add', Int.add_assoc]
  have hs : step x (v2.getD i 0) (w.getD i 0) = [w32 (bigT x (v2.getD i 0) (w.getD i 0) + bigU x), x.getD 0 0, x.getD 1 0, x.getD 2 0, w32 (x.getD 3 0 + bigT x (v2.getD i 0) (w.getD i 0)), x.getD 4 0, x.getD 5 0, x.getD 6 0] := rfl
  rw [hs, bigU]
  rw [← e]
  rfl
def addL (a b : List Int) : List Int := (List.range 8).map fun i => w32 (a.getD i 0 + b.getD i 0)
def blockS (h b kk : List Int) : List Int := addL h (rounds kk (sched 48 16 (words b 16 0 (List.replicate 64 0))) 64 0 h)
theorem len8 {l : List Int} (h : l.length = 8) : ∃ a b c d e f g i, l = [a, b, c, d, e, f, g, i] := by
 match l, h with
 | [a, b, c, d, e, f, g, i], _ => exact ⟨a, b, c, d, e, f, g, i, rfl⟩
theorem add_r (k n : Nat) (h x : List Int) (h0 : h.length = 8) (hx : x.length = 8) : ref01_block.L4 k h (n + 9) 0 x = some (addL h x) := by
 obtain ⟨a, b, c, d, e, f, g, i, rfl⟩ := len8 h0
 obtain ⟨a', b', c', d', e', f', g', i', rfl⟩ := len8 hx
 simp [ref01_block.L4, chk, idx, addL, w32, List.range_succ, IntKind.wrap, Int.add_comm]
theorem block_r (k : Nat) (h b kk : List Int) (hk : 100 < k) (h0 : h.length = 8) (hb : b.length = 64) (h2 : kk.length = 64) : ref01_block k h b kk = some (blockS h b kk) := by
 have hw : (sched 48 16 (words b 16 0 (List.replicate 64 0))).length = 64 := by rw [sched_len, words_len]; simp
 obtain ⟨n, rfl⟩ : ∃ n, k = n + 9 := ⟨k - 9, by omega⟩
 unfold ref01_block
 rw [chk_pos (by omega), let1_eq]
 exact (words_r _ h b kk hb 16 0 (n + 9) (List.replicate 64 0) rfl (by omega) (by simp)).trans ((sched_r _ h kk h0 48 16 (n + 9) _ rfl (by omega) (by omega) (by rw [words_len]; simp)).trans
  ((rounds_r _ h kk _ h2 hw 64 0 (n + 9) h rfl (by omega) h0).trans (add_r _ n h _ h0 (rounds_len _ _ _ _ _ h0))))
theorem blockS_len (h b kk : List Int) : (blockS h b kk).length = 8 := by simp [blockS, addL]
def initH : List Int := [1779033703, 3144134277, 1013904242, 2773480762, 1359893119, 2600822924, 528734635, 1541459225]
def KK : List Int := (ref01_constants 1).getD []
theorem KK_r (k : Nat) : ref01_constants k = some KK := rfl
theorem KK_len : KK.length = 64 := rfl
def blocks : Nat → List Int → List Int → List Int
 | 0, _, h => h
 | m + 1, l, h => blocks m (l.drop 64) (blockS h (l.take 64) KK)
theorem blocks_len : ∀ (m : Nat) (l h : List Int), h.length = 8 → (blocks m l h).length = 8
 | 0, _, _, hh => hh
 | m + 1, l, h, hh => blocks_len m _ _ (blockS_len _ _ _)
def outB (x : Int) : List Int := [IntKind.wrap .u8 (Int.fdiv x (2 ^ (24))), IntKind.wrap .u8 (Int.fdiv x (2 ^ (16))), IntKind.wrap .u8 (Int.fdiv x (2 ^ (8))), IntKind.wrap .u8 x]
def outS (h : List Int) : ByteArray := ofI (h.flatMap outB)
theorem bI_len (b : ByteArray) : (bI b).length = b.size := by unfold bI; rw [List.length_map, Array.length_toList]; rfl
theorem bI_ofI' (l : List Int) (h : ∀ x ∈ l, 0 ≤ x ∧ x ≤ 255) : bI (ofI l) = l := by
 unfold ofI bI
 rw [List.map_map]
 conv => rhs; rw [← List.map_id l]
 refine List.map_congr_left fun x hx => ?_
 have := h x hx
 simp
 omega
theorem outS_size (h : List Int) (h8 : h.length = 8) : (outS h).size = 32 := by
 obtain ⟨a, b, c, d, e, f, g, i, rfl⟩ := len8 h8
 rfl
theorem w8_range (x : Int) : 0 ≤ IntKind.wrap .u8 x ∧ IntKind.wrap .u8 x ≤ 255 := by rw [wu8_def]; omega
theorem outS_bI (h : List Int) : bI (outS h) = h.flatMap outB := by
 unfold outS
 refine bI_ofI' _ fun x hx => ?_
 simp only [List.mem_flatMap, outB, List.mem_cons, List.not_mem_nil, or_false] at hx
 obtain ⟨y, _, rfl | rfl | rfl | rfl⟩ := hx <;> exact w8_range _
theorem out_r (k n : Nat) (h : List Int) (h8 : h.length = 8) : ref01_Sum.L4 k h (n + 9) 0 [] = some (outS h) := by
 obtain ⟨a, b, c, d, e, f, g, i, rfl⟩ := len8 h8
 simp [ref01_Sum.L4, chk, idx, outS, outB, IntKind.wrap]
theorem blocks_r (k : Nat) (l : List Int) (hk : 100 < k) (hl : l.length < 1000000000000000) : ∀ (m j n : Nat) (h : List Int), 64 * (j + m) = l.length → m < n → h.length = 8 →
 ref01_Sum.L3 k l KK n h ((64 * j : Nat) : Int) = some (outS (blocks m (l.drop (64 * j)) h))
 | 0, j, n + 1, h, hj, _, hh => by
  rw [ref01_Sum.L3, if_neg (by omega)]
  obtain ⟨q, rfl⟩ : ∃ q, k = q + 9 := ⟨k - 9, by omega⟩
  exact out_r _ q h hh
 | m + 1, j, n + 1, h, hj, hn, hh => by
  have e : IntKind.wrap .i64 (((64 * j : Nat) : Int) + 64) = ((64 * (j + 1) : Nat) : Int) := by rw [w64 (by omega) (by omega)]; omega
  rw [ref01_Sum.L3, if_pos (by omega), e, chk_pos ⟨by omega, by omega, by omega⟩, Int.toNat_natCast, Int.toNat_natCast]
  have ht : (l.take (64 * (j + 1))).drop (64 * j) = (l.drop (64 * j)).take 64 := by
   rw [List.drop_take]; congr 1; omega
  rw [ht, block_r k h _ KK hk hh (by rw [List.length_take, List.length_drop]; omega) KK_len, bnd1_some, blocks_r k l hk hl m (j + 1) n _ (by omega) (by omega) (blockS_len _ _ _), blocks, List.drop_drop]
  rfl
def fill : Nat → List Int → List Int
 | 0, l => l
 | m + 1, l => fill m (l ++ [0])
theorem fill_len : ∀ (m : Nat) (l : List Int), (fill m l).length = l.length + m
 | 0, _ => rfl
 | m + 1, l => by rw [fill, fill_len]; simp; omega
def need (n : Nat) : Nat := (56 + 64 - n % 64) % 64
theorem need_spec (n : Nat) : (n + need n) % 64 = 56 ∧ need n < 64 := by unfold need; omega
theorem tm64 (n : Nat) : Int.tmod ((n : Nat) : Int) 64 = ((n % 64 : Nat) : Int) := by rw [Int.tmod_eq_emod_of_nonneg (by omega)]; omega
def lenB (n : Nat) (s : Nat) : Int := IntKind.wrap .u8 (Int.fdiv (IntKind.wrap .u64 (IntKind.wrap .u64 (n : Int) * 8)) (2 ^ (min s 64)))
def lens (n : Nat) : List Int := [lenB n 56, lenB n 48, lenB n 40, lenB n 32, lenB n 24, lenB n 16, lenB n 8, lenB n 0]
def shaS (b : List Int) : ByteArray :=
 let l := fill (need (b.length + 1)) (b ++ [128]) ++ lens b.length
 outS (blocks (l.length / 64) l initH)
theorem initH_len : initH.length = 8 := rfl
theorem shaS_size (b : List Int) : (shaS b).size = 32 := outS_size _ (blocks_len _ _ _ initH_len)
theorem padded (b : List Int) : (fill (need (b.length + 1)) (b ++ [128]) ++ lens b.length).length = 64 * ((fill (need (b.length + 1)) (b ++ [128]) ++ lens b.length).length / 64) ∧
 (fill (need (b.length + 1)) (b ++ [128]) ++ lens b.length).length ≤ b.length + 73 + 63 := by
 have h := need_spec (b.length + 1)
 rw [List.length_append, fill_len]
 simp only [List.length_append, List.length_cons, List.length_nil, lens]
 omega
theorem lens_r (k n : Nat) (b v : List Int) (hk : 100 < k) (hv : v.length < 100000000000000) : ref01_Sum.L2 k b (n + 9) 7 v = ref01_Sum.L3 k (v ++ lens b.length) KK k initH 0 := by
 have c : ∀ (i : Nat) (s : List Int), i < 10 → s.length = 1 → (((v.length + i) + s.length) * 1 ≤ 140737488355328) := fun i s hi hs => by omega
 have h : v.length + 10 ≤ 140737488355328 := by omega
 simp [ref01_Sum.L2, chk, KK_r, lens, lenB, IntKind.wrap, initH]
 repeat rw [if_pos (by omega)]
theorem fill_r (k : Nat) (b : List Int) (hk : 100 < k) : ∀ (m n : Nat) (v : List Int), m = need v.length → m < n → v.length + m < 100000000000000 → ref01_Sum.L1 k b n v = ref01_Sum.L2 k b k 7 (fill m v)
 | 0, n + 1, v, h, _, hv => by
  have := need_spec v.length
  rw [ref01_Sum.L1, tm64, if_neg (by omega)]; rfl
 | m + 1, n + 1, v, h, hn, hv => by
  have := need_spec v.length
  have h2 : need (v ++ [0]).length = m := by
   rw [List.length_append]; simp only [List.length_cons, List.length_nil]; unfold need at h ⊢; omega
  rw [ref01_Sum.L1, tm64, if_pos (by omega), chk_pos (by simp; omega), fill_r k b hk m n _ h2.symm (by omega) (by simp; omega)]
  rfl
theorem Sum_r (k : Nat) (b : List Int) (hk : 100 < k) (hk2 : b.length + 200 < k) (hb : b.length < 10000000000000) : ref01_Sum k b = some (shaS b) := by
 unfold ref01_Sum shaS
 have hn := need_spec (b.length + 1)
 rw [chk_pos (by omega), chk_pos (by simp; omega), fill_r k b hk (need (b.length + 1)) k (b ++ [128]) (by simp) (by omega) (by simp; omega)]
 obtain ⟨q, hq⟩ : ∃ q, k = q + 9 := ⟨k - 9, by omega⟩
 have := lens_r k q b (fill (need (b.length + 1)) (b ++ [128])) hk (by rw [fill_len]; simp; omega)
 rw [← hq] at this
 obtain ⟨p1, p2⟩ := padded b
 rw [this, show (0 : Int) = ((64 * 0 : Nat) : Int) from rfl, blocks_r k _ hk (by omega) _ 0 k initH (by rw [Nat.zero_add]; exact p1.symm) (by omega) initH_len]
 rfl
end Go.TF
