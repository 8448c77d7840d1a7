/- Plain laws of layer 25: numbers that are mixed. -/
import Derived.Test.YtepdfenlkeaefaaEPros
set_option linter.unusedVariables false
set_option linter.unusedSimpArgs false
namespace Go.TF
open Go Go.Abs

theorem awake25 : law25_awake 1000 = some true := by decide +kernel

/-! ### sums -/
def pubB (x : Int) : Bool := decide (0 ≤ x) && decide (x < 4294967296)
theorem public_eq (k : Nat) (x : Int) : beacon_public k x = some (pubB x) := by
  unfold beacon_public pubB
  by_cases h : 0 ≤ x <;> simp [h]
def allP (l : List Int) : Bool := l.all pubB
theorem allP_cons (x : Int) (l : List Int) : allP (x :: l) = (pubB x && allP l) := by simp [allP]
theorem sumP : ∀ (l : List Int), allP l = true → 0 ≤ l.sum ∧ l.sum ≤ 4294967296 * l.length
  | [], _ => by simp
  | x :: l, h => by
    rw [allP_cons, Bool.and_eq_true] at h
    have := sumP l h.2
    have h1 := h.1
    simp only [pubB, Bool.and_eq_true, decide_eq_true_eq] at h1
    simp only [List.sum_cons, List.length_cons]
    omega
def mixF (l : List Int) (m : Int) : Int × Int :=
  if 64 < (l.length : Int) then (0, 3) else if m < 1 then (0, 2) else if 2147483648 < m then (0, 2) else if allP l then (Int.tmod l.sum m, 0) else (0, 2)
theorem mixIx_loop (k : Nat) (l : List Int) (h9 : l.length ≤ 9223372036854775807) : ∀ (m i n : Nat), i + m = l.length → m < n → ∃ r, slices_IndexFunc_int_int_Mix_1.L1 k l n (i : Int) = some r ∧ decide (0 ≤ r) = !allP (l.drop i)
  | 0, i, n + 1, h, _ => by
    rw [slices_IndexFunc_int_int_Mix_1.L1, if_neg (by omega), List.drop_of_length_le (by omega)]
    exact ⟨-1, rfl, rfl⟩
  | m + 1, i, n + 1, h, hn => by
    have h1 : i < l.length := by omega
    rw [slices_IndexFunc_int_int_Mix_1.L1, if_pos (by omega), idx_pos h1, beacon_Mix_1, public_eq, bnd1_some, bnd1_some, List.drop_eq_getElem_cons h1, allP_cons]
    cases hv : pubB l[i]
    · exact ⟨i, rfl, by simp⟩
    · rw [if_neg (by simp), succ64 _ (by omega), Bool.true_and]
      exact mixIx_loop k l h9 m (i + 1) n (by omega) (by omega)
theorem mixCont_eq (k : Nat) (l : List Int) (h9 : l.length ≤ 9223372036854775807) (hk : l.length < k) : slices_ContainsFunc_int_int_Mix_1 k l = some (!allP l) := by
  obtain ⟨r, h1, h2⟩ := mixIx_loop k l h9 l.length 0 k (by omega) hk
  unfold slices_ContainsFunc_int_int_Mix_1 slices_IndexFunc_int_int_Mix_1
  rw [show (0 : Int) = ((0 : Nat) : Int) from rfl, h1, bnd1_some]
  exact congrArg some (by simpa using h2)
theorem mix_loop (k : Nat) (l : List Int) (m : Int) (hm : m ≠ 0) (hl : l.length ≤ 64) (ha : allP l = true) : ∀ (j i n : Nat) (a : Int), i + j = l.length → j < n → 0 ≤ a → a ≤ 4294967296 * i → beacon_Mix.L1 k l m n a (i : Int) = some (Int.tmod (a + (l.drop i).sum) m, 0)
  | 0, i, n + 1, a, h, _, _, _ => by
    rw [beacon_Mix.L1, if_neg (by omega), List.drop_of_length_le (by omega), chk_pos hm]; simp
  | j + 1, i, n + 1, a, h, hn, h0, h4 => by
    have h1 : i < l.length := by omega
    have hp : pubB l[i] = true := List.all_eq_true.1 ha _ (List.getElem_mem h1)
    simp only [pubB, Bool.and_eq_true, decide_eq_true_eq] at hp
    rw [beacon_Mix.L1, if_pos (by omega), idx_pos h1, succ64 _ (by omega), w64 (by omega) (by omega), mix_loop k l m hm hl ha j (i + 1) n _ (by omega) (by omega) (by omega) (by omega), List.drop_eq_getElem_cons h1, List.sum_cons, Int.add_assoc]
theorem Mix_eq (k : Nat) (l : List Int) (m : Int) (hk : 64 < k) : beacon_Mix k l m = some (mixF l m) := by
  unfold beacon_Mix mixF
  by_cases a : 64 < (l.length : Int)
  · rw [if_pos a, if_pos a]
  rw [if_neg a, if_neg a]
  by_cases b : m < 1
  · rw [if_pos b, if_pos b]
  rw [if_neg b, if_neg b]
  by_cases c : 2147483648 < m
  · rw [if_pos c, if_pos c]
  rw [if_neg c, if_neg c, mixCont_eq k l (by omega) (by omega), bnd1_some]
  cases d : allP l
  · rfl
  · rw [if_neg (by simp), show (0 : Int) = ((0 : Nat) : Int) from rfl, mix_loop k l m (by omega) (by omega) d l.length 0 k _ (by omega) (by omega) (by omega) (by omega)]
    simp
theorem refMix_loop (k : Nat) (l : List Int) (m : Int) (hm : m ≠ 0) (hl : l.length ≤ 64) : ∀ (j i n : Nat) (a : Int), i + j = l.length → j < n → 0 ≤ a → a ≤ 4294967296 * i → ref25_Mix.L1 k l m n a (i : Int) = some (if allP (l.drop i) then (Int.tmod (a + (l.drop i).sum) m, 0) else (0, 2))
  | 0, i, n + 1, a, h, _, _, _ => by
    rw [ref25_Mix.L1, if_neg (by omega), List.drop_of_length_le (by omega), chk_pos hm]; simp [allP]
  | j + 1, i, n + 1, a, h, hn, h0, h4 => by
    have h1 : i < l.length := by omega
    rw [ref25_Mix.L1, if_pos (by omega), idx_pos h1, List.drop_eq_getElem_cons h1, allP_cons, List.sum_cons]
    by_cases c : l[i] < 0
    · rw [if_pos c]; have : ¬ 0 ≤ l[i] := by omega
      simp [pubB, this]
    rw [if_neg c]
    by_cases d : 4294967296 ≤ l[i]
    · rw [if_pos d]; have : ¬ l[i] < 4294967296 := by omega
      simp [pubB, this]
    rw [if_neg d, succ64 _ (by omega), w64 (by omega) (by omega), refMix_loop k l m hm hl j (i + 1) n _ (by omega) (by omega) (by omega) (by omega), Int.add_assoc]
    have : pubB l[i] = true := by simp [pubB]; omega
    rw [this, Bool.true_and]
theorem refMix_eq (k : Nat) (l : List Int) (m : Int) (hk : 64 < k) : ref25_Mix k l m = some (mixF l m) := by
  unfold ref25_Mix mixF
  by_cases a : 64 < (l.length : Int)
  · rw [if_pos a, if_pos a]
  rw [if_neg a, if_neg a]
  by_cases b : m < 1
  · rw [if_pos b, if_pos b]
  rw [if_neg b, if_neg b]
  by_cases c : 2147483648 < m
  · rw [if_pos c, if_pos c]
  rw [if_neg c, if_neg c, show (0 : Int) = ((0 : Nat) : Int) from rfl, refMix_loop k l m (by omega) (by omega) l.length 0 k _ (by omega) (by omega) (by omega) (by omega)]
  simp

/-! ### one number goes round -/
theorem modlt {x m : Nat} (h : x < 2 * m) : x % m = if x < m then x else x - m := by
  split
  · exact Nat.mod_eq_of_lt (by omega)
  · rw [Nat.mod_eq_sub_mod (by omega), Nat.mod_eq_of_lt (by omega)]
def seenL (a m n : Nat) : List Int := (List.range m).map fun r => if (if r < a then r + m - a else r - a) < n then 1 else 0
theorem seenL_len (a m n : Nat) : (seenL a m n).length = m := by simp [seenL]
theorem seenL_0 (a m : Nat) : seenL a m 0 = List.replicate m 0 := by
  unfold seenL
  simp only [Nat.not_lt_zero, if_false]
  exact List.ext_getElem (by simp) fun i h1 h2 => by simp
theorem seenL_get (a m n r : Nat) (hr : r < m) : (seenL a m n)[r]'(by rw [seenL_len]; exact hr) = if (if r < a then r + m - a else r - a) < n then 1 else 0 := by simp [seenL]
theorem seenL_set (a m n : Nat) (ha : a < m) (hn : n < m) : (seenL a m n).set ((a + n) % m) 1 = seenL a m (n + 1) := by
  have e := modlt (x := a + n) (m := m) (by omega)
  refine List.ext_getElem (by simp [seenL]) fun r h1 h2 => ?_
  have hr : r < m := by simpa [seenL] using h2
  rw [List.getElem_set, seenL_get a m (n + 1) r hr, seenL_get a m n r hr, e]
  by_cases c1 : a + n < m <;> by_cases c2 : r < a <;> simp only [c1, c2, if_true, if_false] <;> (split <;> split <;> (try split) <;> first | rfl | omega)
theorem seenL_at (a m n : Nat) (ha : a < m) (hn : n < m) : (seenL a m n)[(a + n) % m]'(by rw [seenL_len]; exact Nat.mod_lt _ (by omega)) = 0 := by
  have e := modlt (x := a + n) (m := m) (by omega)
  rw [seenL_get a m n _ (Nat.mod_lt _ (by omega)), if_neg]
  rw [e]
  split <;> split <;> omega
theorem seenL_full (a m r : Nat) (ha : a < m) (hr : r < m) : (seenL a m m)[r]'(by rw [seenL_len]; exact hr) = 1 := by
  rw [seenL_get a m m r hr]
  by_cases c : r < a
  · rw [if_pos c, if_pos (by omega)]
  · rw [if_neg c, if_pos (by omega)]
theorem tmodN (a b : Nat) : Int.tmod (a : Int) (b : Int) = ((a % b : Nat) : Int) := by
  rw [Int.tmod_eq_emod_of_nonneg (by omega)]; rfl

theorem InR.u32 {n : Int} (h : InR .u32 n) : 0 ≤ n ∧ n ≤ 4294967295 := by
  simpa [InR, IntKind.min, IntKind.max, IntKind.bits, IntKind.signed] using h
end Go.TF
