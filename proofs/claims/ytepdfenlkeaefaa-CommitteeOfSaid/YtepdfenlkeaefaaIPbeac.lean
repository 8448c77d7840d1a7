/- Plain laws of layer 25: numbers that are mixed. -/
import Derived.Test.YtepdfenlkeaefaaIPros
set_option linter.unusedVariables false
set_option linter.unusedSimpArgs false
namespace Go.TF
open Go Go.Abs
def pubB (x : Int) : Bool := decide (0 ≤ x) && decide (x < 4294967296)
def allP (l : List Int) : Bool := l.all pubB
theorem allP_cons (x : Int) (l : List Int) : allP (x :: l) = (pubB x && allP l) := by simp [allP]
theorem sumP : ∀ (l : List Int), allP l = true → 0 ≤ l.sum ∧ l.sum ≤ 4294967296 * l.length
 | [], _ => by simp
 | x :: l, h => by
  rw [allP_cons, Bool.and_eq_true] at h
  have := sumP l h.2
  have h1 := h.1
  simp only [pubB, Bool.and_eq_true, decide_eq_true_eq] at h1
  simp only [List.sum_cons, List.length_cons]
  omega
def mixF (l : List Int) (m : Int) : Int × Int :=
 if 64 < (l.length : Int) then (0, 3) else if m < 1 then (0, 2) else if 2147483648 < m then (0, 2) else if allP l then (Int.tmod l.sum m, 0) else (0, 2)
theorem modlt {x m : Nat} (h : x < 2 * m) : x % m = if x < m then x else x - m := by
 split
 ·exact Nat.mod_eq_of_lt (by omega)
 ·rw [Nat.mod_eq_sub_mod (by omega), Nat.mod_eq_of_lt (by omega)]
def seenL (a m n : Nat) : List Int := (List.range m).map fun r => if (if r < a then r + m - a else r - a) < n then 1 else 0
theorem seenL_len (a m n : Nat) : (seenL a m n).length = m := by simp [seenL]
theorem seenL_0 (a m : Nat) : seenL a m 0 = List.replicate m 0 := by
 unfold seenL
 simp only [Nat.not_lt_zero, if_false]
 exact List.ext_getElem (by simp) fun i h1 h2 => by simp
theorem seenL_get (a m n r : Nat) (hr : r < m) : (seenL a m n)[r]'(by rw [seenL_len]; exact hr) = if (if r < a then r + m - a else r - a) < n then 1 else 0 := by simp [seenL]
theorem seenL_set (a m n : Nat) (ha : a < m) (hn : n < m) : (seenL a m n).set ((a + n) % m) 1 = seenL a m (n + 1) := by
 have e := modlt (x := a + n) (m := m) (by omega)
 refine List.ext_getElem (by simp [seenL]) fun r h1 h2 => ?_
 have hr : r < m := by simpa [seenL] using h2
 rw [List.getElem_set, seenL_get a m (n + 1) r hr, seenL_get a m n r hr, e]
 by_cases c1 : a + n < m <;> by_cases c2 : r < a <;> simp only [c1, c2, if_true, if_false] <;> (split <;> split <;> (try split) <;> first | rfl | omega)
theorem seenL_at (a m n : Nat) (ha : a < m) (hn : n < m) : (seenL a m n)[(a + n) % m]'(by rw [seenL_len]; exact Nat.mod_lt _ (by omega)) = 0 := by
 have e := modlt (x := a + n) (m := m) (by omega)
 rw [seenL_get a m n _ (Nat.mod_lt _ (by omega)), if_neg]
 rw [e]
 split <;> split <;> omega
theorem seenL_full (a m r : Nat) (ha : a < m) (hr : r < m) : (seenL a m m)[r]'(by rw [seenL_len]; exact hr) = 1 := by
 rw [seenL_get a m m r hr]
 by_cases c : r < a
 ·rw [if_pos c, if_pos (by omega)]
 ·rw [if_neg c, if_pos (by omega)]
theorem tmodN (a b : Nat) : Int.tmod (a : Int) (b : Int) = ((a % b : Nat) : Int) := by
 rw [Int.tmod_eq_emod_of_nonneg (by omega)]; rfl
theorem InR.u32 {n : Int} (h : InR .u32 n) : 0 ≤ n ∧ n ≤ 4294967295 := by
 simpa [InR, IntKind.min, IntKind.max, IntKind.bits, IntKind.signed] using h
end Go.TF
