/- Plain laws of layer 2: what is written. -/
import Derived.Test.YteclncnknklkfaaGaPl
set_option linter.unusedVariables false
set_option linter.unusedSimpArgs false
namespace Go.TF
open Go Go.Abs
def encL (v : Int) : Nat → List Int
 | 0 => []
 | j + 1 => (v / 2 ^ (8 * j) % 256) :: encL v j
theorem encL_length (v : Int) : ∀ j, (encL v j).length = j
 | 0 => rfl
 | j + 1 => by simp [encL, encL_length v j]
def enc (v : Int) : List Int := encL v 8
theorem enc_length (v : Int) : (enc v).length = 8 := encL_length v 8
theorem byte_eq (v : Int) (j : Nat) (hj : j < 8) : (v % 18446744073709551616) / 2 ^ (8 * j) % 256 = v / 2 ^ (8 * j) % 256 := by
 have : j = 0 ∨ j = 1 ∨ j = 2 ∨ j = 3 ∨ j = 4 ∨ j = 5 ∨ j = 6 ∨ j = 7 := by omega
 rcases this with rfl | rfl | rfl | rfl | rfl | rfl | rfl | rfl <;> simp <;> omega
theorem refInt_loop (k : Nat) (v : Int) : ∀ (j n : Nat) (acc : List Int), j ≤ 8 → j < n → acc.length + j ≤ 200000 → ref02_Int.L1 k v n ((j : Int) - 1) acc = some (acc ++ encL v j)
 | 0, n + 1, acc, _, _, _ => by
  rw [ref02_Int.L1, if_neg (by omega)]; simp [encL]
 | j + 1, n + 1, acc, hj, hn, ha => by
  have e0 : IntKind.wrap .i64 (8 * (((j + 1 : Nat) : Int) - 1)) = 8 * (j : Int) := by rw [w64 (by omega) (by omega)]; omega
  have e1 : IntKind.wrap .u64 (8 * (j : Int)) = 8 * (j : Int) := wu64 (by omega) (by omega)
  have e2 : IntKind.wrap .i64 (((j + 1 : Nat) : Int) - 1 - 1) = (j : Int) - 1 := by rw [w64 (by omega) (by omega)]; omega
  have e3 : min (8 * (j : Int)).toNat 64 = 8 * j := by omega
  have e4 : IntKind.wrap .u8 (Int.fdiv v (2 ^ (8 * j))) = v / 2 ^ (8 * j) % 256 := by
   rw [wu8_def, Int.fdiv_eq_ediv_of_nonneg _ (by exact Int.pow_nonneg (by omega))]
  rw [ref02_Int.L1, if_pos (by omega), e0, e1, chk_pos (by omega), e3, e4, chk_pos (by simp; omega), e2, refInt_loop k v j n _ (by omega) (by omega) (by simp; omega)]
  simp [encL]
theorem refInt_eq (k : Nat) (hk : 8 < k) (b : List Int) (v : Int) (hb : b.length ≤ 100000) : ref02_Int k b v = some (b ++ enc v) := by
 unfold ref02_Int
 rw [chk_pos (by omega)]
 exact refInt_loop k v 8 k b (by omega) hk (by omega)
theorem refText_eq (k : Nat) (hk : 8 < k) (b : List Int) (s : ByteArray) (hb : b.length ≤ 100000) (hs : s.size ≤ 100000) : ref02_Text k b s = some (b ++ enc s.size ++ bI s) := by
 unfold ref02_Text
 rw [refInt_eq k hk b _ hb, bnd1_some, chk_pos (by simp [enc_length]; omega)]
theorem refInts_loop (k : Nat) (hk : 8 < k) (l : List Int) (hl : l.length ≤ 1000) : ∀ (m i n : Nat) (acc : List Int), i + m = l.length → m < n → acc.length + 8 * m ≤ 50000 → ref02_Ints.L1 k l n (i : Int) acc = some (acc ++ (l.drop i).flatMap enc)
 | 0, i, n + 1, acc, h, _, _ => by
  rw [ref02_Ints.L1, if_neg (by omega), List.drop_of_length_le (by omega)]; simp
 | m + 1, i, n + 1, acc, h, hn, ha => by
  have hi : i < l.length := by omega
  rw [ref02_Ints.L1, if_pos (by omega), idx_pos hi, refInt_eq k hk _ _ (by omega), bnd1_some, w64 (by omega) (by omega)]
  have := refInts_loop k hk l hl m (i + 1) n (acc ++ enc l[i]) (by omega) (by omega) (by simp [enc_length]; omega)
  rw [show ((i : Int) + 1) = ((i + 1 : Nat) : Int) by omega, this, List.drop_eq_getElem_cons hi, List.flatMap_cons, List.append_assoc]
theorem refInts_eq (k : Nat) (hk : 8 < k) (b l : List Int) (hb : b.length ≤ 10000) (hl : l.length < k) (hl2 : l.length ≤ 1000) : ref02_Ints k b l = some (b ++ enc l.length ++ l.flatMap enc) := by
 unfold ref02_Ints
 rw [refInt_eq k hk b _ (by omega), bnd1_some]
 have := refInts_loop k hk l hl2 l.length 0 k (b ++ enc l.length) (by omega) hl (by simp [enc_length]; omega)
 simpa using this
end Go.TF
