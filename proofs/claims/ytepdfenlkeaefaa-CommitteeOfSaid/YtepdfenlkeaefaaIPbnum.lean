/- Plain laws of layer 25: bytes, values and numbers. -/
import Derived.Test.YtepdfenlkeaefaaIPsha
import Derived.Test.YtepdfenlkeaefaaIPmade
import Derived.Test.YtepdfenlkeaefaaIPwire
import Derived.Test.YtepdfenlkeaefaaIPbeac
set_option linter.unusedVariables false
set_option linter.unusedSimpArgs false
namespace Go.TF
open Go Go.Abs
theorem byteU (v : Int) (j : Nat) (hj : j < 8) : IntKind.wrap .u8 (Int.fdiv (IntKind.wrap .u64 v) (2 ^ (8 * j))) = v / 2 ^ (8 * j) % 256 := by
 rw [wu8_def, wu64_def, Int.fdiv_eq_ediv_of_nonneg _ (by exact Int.pow_nonneg (by omega)), byte_eq v j (by omega)]
theorem min8 (j : Nat) (hj : j < 8) : min (8 * (j : Int)).toNat 64 = 8 * j := by omega
theorem pred8 (j : Nat) (hj : j ≤ 8) : IntKind.wrap .i64 (8 * ((j + 1 : Nat) : Int) - 8 - 8) = 8 * (j : Int) - 8 := by rw [w64 (by omega) (by omega)]; omega
theorem at8 (j : Nat) : 8 * ((j + 1 : Nat) : Int) - 8 = 8 * (j : Int) := by omega
theorem bb2 (k : Nat) (v3 v5 : Int) (kb : Int → List Int → Option (List Int)) : ∀ (j n : Nat) (acc : List Int), j ≤ 8 → j < n → acc.length + j ≤ 200000 →
 beacon_bytes.L2 k v3 v5 kb n (8 * (j : Int) - 8) acc = kb (IntKind.wrap .i64 (v3 + 1)) (acc ++ encL v5 j)
 | 0, n + 1, acc, _, _, _ => by rw [beacon_bytes.L2, if_neg (by omega)]; simp [encL]
 | j + 1, n + 1, acc, hj, hn, ha => by
  rw [beacon_bytes.L2, if_pos (by omega), chk_pos (by omega), pred8 j (by omega), at8, min8 j (by omega), byteU v5 j (by omega), chk_pos (by simp; omega), bb2 k v3 v5 kb j n _ (by omega) (by omega) (by simp; omega)]
  simp [encL]
theorem bb1 (k : Nat) (hk : 8 < k) (l : List Int) (hl : l.length ≤ 1000) : ∀ (m i n : Nat) (acc : List Int), i + m = l.length → m < n → acc.length + 8 * m ≤ 100000 →
 beacon_bytes.L1 k l n (i : Int) acc = some (acc ++ (l.drop i).flatMap enc)
 | 0, i, n + 1, acc, h, _, _ => by rw [beacon_bytes.L1, if_neg (by omega), List.drop_of_length_le (by omega)]; simp
 | m + 1, i, n + 1, acc, h, hn, ha => by
  have h1 : i < l.length := by omega
  rw [beacon_bytes.L1, if_pos (by omega), idx_pos h1, show (56 : Int) = 8 * ((8 : Nat) : Int) - 8 by omega, bb2 k _ _ _ 8 k acc (by omega) hk (by omega), succ64 _ (by omega), bb1 k hk l hl m (i + 1) n _ (by omega) (by omega) (by rw [List.length_append, encL_length]; omega), List.drop_eq_getElem_cons h1, List.flatMap_cons, List.append_assoc]
  rfl
theorem bytes_eq (k : Nat) (hk : 8 < k) (b l : List Int) (hb : b.length ≤ 10000) (hl : l.length ≤ 1000) (hlk : l.length < k) : beacon_bytes k b l = some (b ++ l.flatMap enc) := by
 unfold beacon_bytes
 exact bb1 k hk l hl l.length 0 k b (by omega) hlk (by omega)
theorem flatE_len (l : List Int) : (l.flatMap enc).length = 8 * l.length := by
 induction l with
 | nil => rfl
 | cons x l ih => rw [List.flatMap_cons, List.length_append, enc_length, ih, List.length_cons]; omega
theorem one_enc (v : Int) : ([v] : List Int).flatMap enc = enc v := by simp
theorem list_eq (k : Nat) (hk : 8 < k) (b l : List Int) (hb : b.length ≤ 9000) (hl : l.length ≤ 1000) (hlk : l.length < k) : beacon_list k b l = some (b ++ enc l.length ++ l.flatMap enc) := by
 unfold beacon_list
 rw [bytes_eq k hk b _ (by omega) (by simp) (by simp; omega), bnd1_some, one_enc, bytes_eq k hk _ l (by rw [List.length_append, enc_length]; omega) hl hlk, bnd1_some]
theorem bb5 (k : Nat) (v9 : Int) (kb : Int → List Int → Option (List Int)) : ∀ (j n : Nat) (acc : List Int), j ≤ 8 → j < n → acc.length + j ≤ 200000 →
 beacon_bytes_v2.L5 k v9 kb n (8 * (j : Int) - 8) acc = kb (IntKind.wrap .i64 (0 + 1)) (acc ++ encL v9 j)
 | 0, n + 1, acc, _, _, _ => by rw [beacon_bytes_v2.L5, if_neg (by omega)]; simp [encL]
 | j + 1, n + 1, acc, hj, hn, ha => by
  rw [beacon_bytes_v2.L5, if_pos (by omega), chk_pos (by omega), pred8 j (by omega), at8, min8 j (by omega), byteU v9 j (by omega), chk_pos (by simp; omega), bb5 k v9 kb j n _ (by omega) (by omega) (by simp; omega)]
  simp [encL]
theorem bytes2_eq (k : Nat) (hk : 10 < k) (b : List Int) (v : Int) (hb : b.length ≤ 10000) : beacon_bytes_v2 k b [v] = some (b ++ enc v) := by
 obtain ⟨q, rfl⟩ : ∃ q, k = q + 2 := ⟨k - 2, by omega⟩
 unfold beacon_bytes_v2
 rw [beacon_bytes_v2.P4, if_pos (by simp), show (0 : Int) = ((0 : Nat) : Int) from rfl, idx_pos (by simp), beacon_bytes_v2.P6, chk_pos (by simp; omega), show IntKind.wrap .i64 (56 - 8) = 8 * ((7 : Nat) : Int) - 8 by decide, bb5 (q + 2) _ _ 7 (q + 1) _ (by omega) (by omega) (by simp; omega)]
 rw [show IntKind.wrap .i64 ((0 : Int) + 1) = 1 by decide, beacon_bytes_v2.L2, if_neg (by simp)]
 unfold beacon_bytes_v2.J1
 have := byteU v 7 (by omega)
 rw [show 8 * 7 = 56 from rfl] at this
 simp only [List.getElem_cons_zero, this, List.append_assoc]
 rfl
theorem mul8 (j : Nat) (hj : j < 8) : IntKind.wrap .u64 (IntKind.wrap .i64 (8 * (((j + 1 : Nat) : Int) - 1))) = 8 * (j : Int) := by
 rw [w64 (by omega) (by omega), wu64 (by omega) (by omega)]; omega
theorem pred1 (j : Nat) (hj : j ≤ 8) : IntKind.wrap .i64 (((j + 1 : Nat) : Int) - 1 - 1) = (j : Int) - 1 := by rw [w64 (by omega) (by omega)]; omega
theorem rnum_loop (k : Nat) (v : Int) : ∀ (j n : Nat) (acc : List Int), j ≤ 8 → j < n → acc.length + j ≤ 200000 → ref25_number.L1 k v n ((j : Int) - 1) acc = some (acc ++ encL v j)
 | 0, n + 1, acc, _, _, _ => by rw [ref25_number.L1, if_neg (by omega)]; simp [encL]
 | j + 1, n + 1, acc, hj, hn, ha => by
  rw [ref25_number.L1, if_pos (by omega), mul8 j (by omega), chk_pos (by omega), min8 j (by omega), byteU v j (by omega), chk_pos (by simp; omega), pred1 j (by omega), rnum_loop k v j n _ (by omega) (by omega) (by simp; omega)]
  simp [encL]
theorem rnum_eq (k : Nat) (hk : 8 < k) (b : List Int) (v : Int) (hb : b.length ≤ 100000) : ref25_number k b v = some (b ++ enc v) := by
 unfold ref25_number
 exact rnum_loop k v 8 k b (by omega) hk (by omega)
theorem rlist_loop (k : Nat) (hk : 8 < k) (l : List Int) (hl : l.length ≤ 1000) : ∀ (m i n : Nat) (acc : List Int), i + m = l.length → m < n → acc.length + 8 * m ≤ 50000 → ref25_list.L1 k l n (i : Int) acc = some (acc ++ (l.drop i).flatMap enc)
 | 0, i, n + 1, acc, h, _, _ => by rw [ref25_list.L1, if_neg (by omega), List.drop_of_length_le (by omega)]; simp
 | m + 1, i, n + 1, acc, h, hn, ha => by
  have h1 : i < l.length := by omega
  rw [ref25_list.L1, if_pos (by omega), idx_pos h1, rnum_eq k hk _ _ (by omega), bnd1_some, succ64 _ (by omega), rlist_loop k hk l hl m (i + 1) n _ (by omega) (by omega) (by rw [List.length_append, enc_length]; omega), List.drop_eq_getElem_cons h1, List.flatMap_cons, List.append_assoc]
theorem rlist_eq (k : Nat) (hk : 8 < k) (b l : List Int) (hb : b.length ≤ 9000) (hl : l.length ≤ 1000) (hlk : l.length < k) : ref25_list k b l = some (b ++ enc l.length ++ l.flatMap enc) := by
 unfold ref25_list
 rw [rnum_eq k hk b _ (by omega), bnd1_some]
 exact rlist_loop k hk l hl l.length 0 k _ (by omega) hlk (by rw [List.length_append, enc_length]; omega)
def nextF (v : ByteArray) (e : Int) (l : List Int) : ByteArray × Int :=
 if (v.size : Int) ≠ 32 then ((ByteArray.mk #[]), 1) else if e < 0 then ((ByteArray.mk #[]), 2) else if 40 ≤ e then ((ByteArray.mk #[]), 2) else if 64 < (l.length : Int) then ((ByteArray.mk #[]), 3)
 else (shaS (bI v ++ enc e ++ enc l.length ++ l.flatMap enc), 0)
def commF (n : Int) (s : ByteArray) : ByteArray × Int :=
 if n < 0 then ((ByteArray.mk #[]), 2) else if 4294967296 ≤ n then ((ByteArray.mk #[]), 2) else if 64 < (s.size : Int) then ((ByteArray.mk #[]), 3) else (shaS (enc n ++ bI s), 0)
theorem orI (a b s : Nat) (hs : s ≤ 32) (hb : b < 2 ^ s) (h : a * 2 ^ s + b < 9223372036854775808) : bitsV .or .i64 ((a * 2 ^ s : Nat) : Int) (b : Int) = ((a * 2 ^ s + b : Nat) : Int) := by
 unfold bitsV
 simp only
 rw [BitVec.toNat_or, BitVec.toNat_ofInt, BitVec.toNat_ofInt]
 generalize hP : a * 2 ^ s = P at *
 show IntKind.wrap .i64 ((((P : Int) % ((2 ^ 64 : Nat) : Int)).toNat ||| ((b : Int) % ((2 ^ 64 : Nat) : Int)).toNat : Nat) : Int) = _
 have e1 : ((P : Int) % ((2 ^ 64 : Nat) : Int)).toNat = P := by omega
 have e2 : ((b : Int) % ((2 ^ 64 : Nat) : Int)).toNat = b := by omega
 have e3 : P ||| b = P + b := by
  rw [← hP, Nat.mul_comm a, Nat.two_pow_add_eq_or_of_lt hb]
 rw [e1, e2, e3, w64 (by omega) (by omega)]
theorem bI_at' (b : ByteArray) (i : Nat) (h : i < (bI b).length) : ∃ y : Nat, (bI b)[i] = (y : Int) ∧ y < 256 := by
 unfold bI at h ⊢
 refine ⟨(b.data.toList[i]'(by simpa using h)).toNat, ?_, ?_⟩
 ·simp
 ·have := (b.data.toList[i]'(by simpa using h)).toNat_lt; omega
def f256 (a b : Int) : Int := a * 256 + b
theorem num2 (k : Nat) (v6 : Int) (v7 : List Int) (s : ByteArray) (kb : Int → List Int → Option (List Int × Int)) (hs : s.size = 32) (h7 : v7.length ≤ 1000) : ∀ (m i n : Nat) (a : Nat), i + m = 4 → m < n → a < 256 ^ i →
 beacon_Numbers.L2 k v6 v7 s kb n (a : Int) (i : Int) = kb (IntKind.wrap .i64 (v6 + 1)) (v7 ++ [(((bI s).drop i).take m).foldl f256 (a : Int)])
 | 0, i, n + 1, a, h, _, _ => by
  rw [beacon_Numbers.L2, if_neg (by omega), chk_pos (by simp; omega)]; simp
 | m + 1, i, n + 1, a, h, hn, ha => by
  have hl : (bI s).length = 32 := by rw [bI_len, hs]
  have h1 : i < (bI s).length := by omega
  obtain ⟨y, hy, hy2⟩ := bI_at' s i h1
  have hp : 256 ^ i ≤ 256 ^ 3 := Nat.pow_le_pow_right (by omega) (by omega)
  have e1 : IntKind.wrap .i64 ((a : Int) * 2 ^ (8)) = ((a * 2 ^ 8 : Nat) : Int) := by rw [w64 (by omega) (by omega)]; omega
  rw [beacon_Numbers.L2, if_pos (by omega), idx_pos h1, e1, hy, w64 (n := (y : Int)) (by omega) (by omega), orI a y 8 (by omega) (by omega) (by omega), succ64 _ (by omega), num2 k v6 v7 s kb hs h7 m (i + 1) n (a * 2 ^ 8 + y) (by omega) (by omega) (by rw [Nat.pow_succ]; omega),
   List.drop_eq_getElem_cons h1, List.take_succ_cons, List.foldl_cons, hy]
  have : f256 (a : Int) (y : Int) = ((a * 2 ^ 8 + y : Nat) : Int) := by unfold f256; omega
  rw [this]
def numAt (h : List Int) (i : Int) : Int := ((bI (shaS (h ++ enc i))).take 4).foldl f256 0
def numsN (h : List Int) (n : Nat) : List Int := (List.range n).map fun i => numAt h (i : Nat)
theorem numsN_succ (h : List Int) (n : Nat) : numsN h (n + 1) = numsN h n ++ [numAt h (n : Nat)] := by simp [numsN, List.range_succ]
theorem numsN_len (h : List Int) (n : Nat) : (numsN h n).length = n := by simp [numsN]
theorem num1 (k : Nat) (hk : 900 < k) (v2 : Int) (h : List Int) (h6 : h.length ≤ 600) (h64 : v2 ≤ 64) : ∀ (m i n : Nat), (i + m : Int) = v2 → m < n → beacon_Numbers.L1 k v2 h n (i : Int) (numsN h i) = some (numsN h v2.toNat, 0)
 | 0, i, n + 1, e, _ => by
  rw [beacon_Numbers.L1, if_neg (by omega)]
  have : v2.toNat = i := by omega
  rw [this]
 | m + 1, i, n + 1, e, hn => by
  rw [beacon_Numbers.L1, if_pos (by omega), chk_pos ⟨by omega, by omega⟩, Int.toNat_natCast, List.take_of_length_le (by omega), bytes2_eq k (by omega) _ _ (by omega), bnd1_some, Sum_p k _ (by omega) (by rw [List.length_append, enc_length]; omega) (by rw [List.length_append, enc_length]; omega), bnd1_some,
   show (0 : Int) = ((0 : Nat) : Int) from rfl, num2 k _ _ _ _ (shaS_size _) (by rw [numsN_len]; omega) 4 0 k 0 (by omega) (by omega) (by omega), succ64 _ (by omega)]
  have : numsN h i ++ [(((bI (shaS (h ++ enc i))).drop 0).take 4).foldl f256 ((0 : Nat) : Int)] = numsN h (i + 1) := by rw [numsN_succ]; rfl
  rw [this]
  exact num1 k hk v2 h h6 h64 m (i + 1) n (by omega) (by omega)
def numsF (v : ByteArray) (t : List Int) (n : Int) : List Int × Int :=
 if (v.size : Int) ≠ 32 then ([], 1) else if 64 < (t.length : Int) then ([], 3) else if n < 0 then ([], 2) else if 64 < n then ([], 2) else (numsN (bI v ++ enc t.length ++ t.flatMap enc) n.toNat, 0)
theorem Numbers_eq (k : Nat) (hk : 900 < k) (v : ByteArray) (t : List Int) (n : Int) : beacon_Numbers k v t n = some (numsF v t n) := by
 unfold beacon_Numbers numsF
 by_cases a : (v.size : Int) ≠ 32
 ·rw [if_pos a, if_pos a]
 rw [if_neg a, if_neg a]
 by_cases d : 64 < (t.length : Int)
 ·rw [if_pos d, if_pos d]
 rw [if_neg d, if_neg d]
 by_cases b : n < 0
 ·rw [if_pos b, if_pos b]
 rw [if_neg b, if_neg b]
 by_cases c : 64 < n
 ·rw [if_pos c, if_pos c]
 have hv : (bI v).length = 32 := by rw [bI_len]; omega
 rw [if_neg c, if_neg c, list_eq k (by omega) _ _ (by omega) (by omega) (by omega), bnd1_some]
 exact num1 k hk n _ (by simp only [List.length_append, enc_length, flatE_len]; omega) (by omega) n.toNat 0 k (by omega) (by omega)
theorem ref4 (s : ByteArray) (hs : s.size = 32) {α : Type} (f : Int → Option α) : (idx (bI s) 0 fun v10 => idx (bI s) 1 fun v11 => idx (bI s) 2 fun v12 => idx (bI s) 3 fun v13 =>
 f (bitsV .or .i64 (bitsV .or .i64 (bitsV .or .i64 (IntKind.wrap .i64 ((IntKind.wrap .i64 v10) * 2 ^ (24))) (IntKind.wrap .i64 ((IntKind.wrap .i64 v11) * 2 ^ (16)))) (IntKind.wrap .i64 ((IntKind.wrap .i64 v12) * 2 ^ (8)))) (IntKind.wrap .i64 v13))) = f (((bI s).take 4).foldl f256 0) := by
 have hl : (bI s).length = 32 := by rw [bI_len, hs]
 obtain ⟨a, ha, ha2⟩ := bI_at' s 0 (by omega)
 obtain ⟨b, hb, hb2⟩ := bI_at' s 1 (by omega)
 obtain ⟨c, hc, hc2⟩ := bI_at' s 2 (by omega)
 obtain ⟨d, hd, hd2⟩ := bI_at' s 3 (by omega)
 rw [show (0 : Int) = ((0 : Nat) : Int) from rfl, show (1 : Int) = ((1 : Nat) : Int) from rfl, show (2 : Int) = ((2 : Nat) : Int) from rfl, show (3 : Int) = ((3 : Nat) : Int) from rfl,
  idx_pos (by omega), idx_pos (by omega), idx_pos (by omega), idx_pos (by omega), ha, hb, hc, hd]
 rw [w64 (n := (a : Int)) (by omega) (by omega), w64 (n := (b : Int)) (by omega) (by omega), w64 (n := (c : Int)) (by omega) (by omega), w64 (n := (d : Int)) (by omega) (by omega)]
 have e1 : IntKind.wrap .i64 ((a : Int) * ((2 : Nat) : Int) ^ 24) = (((a * 256) * 2 ^ 16 : Nat) : Int) := by rw [w64 (by omega) (by omega)]; omega
 have e2 : IntKind.wrap .i64 ((b : Int) * ((2 : Nat) : Int) ^ 16) = ((b * 2 ^ 16 : Nat) : Int) := by rw [w64 (by omega) (by omega)]; omega
 have e3 : IntKind.wrap .i64 ((c : Int) * ((2 : Nat) : Int) ^ 8) = ((c * 2 ^ 8 : Nat) : Int) := by rw [w64 (by omega) (by omega)]; omega
 have o1 : bitsV .or .i64 (((a * 256) * 2 ^ 16 : Nat) : Int) ((b * 2 ^ 16 : Nat) : Int) = (((a * 256 + b) * 256 * 2 ^ 8 : Nat) : Int) := by
  have := orI a (b * 2 ^ 16) 24 (by omega) (by omega) (by omega)
  rw [show a * 256 * 2 ^ 16 = a * 2 ^ 24 by omega, this]; omega
 have o2 : bitsV .or .i64 (((a * 256 + b) * 256 * 2 ^ 8 : Nat) : Int) ((c * 2 ^ 8 : Nat) : Int) = ((((a * 256 + b) * 256 + c) * 2 ^ 8 : Nat) : Int) := by
  have := orI (a * 256 + b) (c * 2 ^ 8) 16 (by omega) (by omega) (by omega)
  rw [show (a * 256 + b) * 256 * 2 ^ 8 = (a * 256 + b) * 2 ^ 16 by omega, this]; omega
 rw [e1, e2, e3, o1, o2, orI ((a * 256 + b) * 256 + c) d 8 (by omega) (by omega) (by omega)]
 have ht : (bI s).take 4 = [(a : Int), b, c, d] := by
  rw [← ha, ← hb, ← hc, ← hd]
  refine List.ext_getElem (by simp; omega) fun i h1 h2 => ?_
  have : i = 0 ∨ i = 1 ∨ i = 2 ∨ i = 3 := by simp at h2; omega
  rcases this with rfl | rfl | rfl | rfl <;> simp
 have hf : ([(a : Int), b, c, d] : List Int).foldl f256 ((0 : Nat) : Int) = ((((a * 256 + b) * 256 + c) * 2 ^ 8 + d : Nat) : Int) := by
  simp only [List.foldl_cons, List.foldl_nil, f256]; omega
 rw [ht, hf]
theorem rnum1 (k : Nat) (hk : 900 < k) (v : ByteArray) (hv : (bI v).length = 32) (t : List Int) (ht : t.length ≤ 64) (v2 : Int) (h64 : v2 ≤ 64) : ∀ (m i n : Nat), (i + m : Int) = v2 → m < n →
 ref25_Numbers.L1 k v t v2 n (i : Int) (numsN (bI v ++ enc t.length ++ t.flatMap enc) i) = some (numsN (bI v ++ enc t.length ++ t.flatMap enc) v2.toNat, 0)
 | 0, i, n + 1, e, _ => by
  rw [ref25_Numbers.L1, if_neg (by omega)]
  have : v2.toNat = i := by omega
  rw [this]
 | m + 1, i, n + 1, e, hn => by
  rw [ref25_Numbers.L1, if_pos (by omega), chk_pos (by omega), rlist_eq k (by omega) _ _ (by omega) (by omega) (by omega), bnd1_some, rnum_eq k (by omega) _ _ (by simp only [List.length_append, enc_length, flatE_len]; omega), bnd1_some,
   Sum_r k _ (by omega) (by simp only [List.length_append, enc_length, flatE_len]; omega) (by simp only [List.length_append, enc_length, flatE_len]; omega), bnd1_some]
  have := ref4 (shaS (bI v ++ enc t.length ++ t.flatMap enc ++ enc i)) (shaS_size _) (fun x => chk (((numsN (bI v ++ enc t.length ++ t.flatMap enc) i).length + ([x] : List Int).length) * 8 ≤ 140737488355328) <| ref25_Numbers.L1 k v t v2 n (IntKind.wrap .i64 ((i : Int) + 1)) (numsN (bI v ++ enc t.length ++ t.flatMap enc) i ++ [x]))
  rw [this, chk_pos (by rw [numsN_len]; simp; omega), succ64 _ (by omega)]
  have e2 : numsN (bI v ++ enc t.length ++ t.flatMap enc) i ++ [((bI (shaS (bI v ++ enc t.length ++ t.flatMap enc ++ enc i))).take 4).foldl f256 0] = numsN (bI v ++ enc t.length ++ t.flatMap enc) (i + 1) := by rw [numsN_succ]; rfl
  rw [e2]
  exact rnum1 k hk v hv t ht v2 h64 m (i + 1) n (by omega) (by omega)
theorem refNumbers_eq (k : Nat) (hk : 900 < k) (v : ByteArray) (t : List Int) (n : Int) : ref25_Numbers k v t n = some (numsF v t n) := by
 unfold ref25_Numbers numsF
 by_cases a : (v.size : Int) ≠ 32
 ·rw [if_pos a, if_pos a]
 rw [if_neg a, if_neg a]
 by_cases d : 64 < (t.length : Int)
 ·rw [if_pos d, if_pos d]
 rw [if_neg d, if_neg d]
 by_cases b : n < 0
 ·rw [if_pos b, if_pos b]
 rw [if_neg b, if_neg b]
 by_cases c : 64 < n
 ·rw [if_pos c, if_pos c]
 have hv : (bI v).length = 32 := by rw [bI_len]; omega
 rw [if_neg c, if_neg c]
 exact rnum1 k hk v hv t (by omega) n (by omega) n.toNat 0 k (by omega) (by omega)
theorem numsF_len (v : ByteArray) (t : List Int) (n : Int) : (numsF v t n).1.length ≤ 64 := by
 unfold numsF
 split <;> try (simp; done)
 split <;> try (simp; done)
 split <;> try (simp; done)
 split <;> try (simp; done)
 rw [numsN_len]; omega
end Go.TF
