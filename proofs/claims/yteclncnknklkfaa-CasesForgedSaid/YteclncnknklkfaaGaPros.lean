/- Plain laws of layer 24: lists of keys as sets. -/
import Derived.Test.YteclncnknklkfaaGaPl
set_option linter.unusedVariables false
set_option linter.unusedSimpArgs false
namespace Go.TF
open Go Go.Abs
theorem succ64 (i : Nat) (h : i < 9223372036854775807) : IntKind.wrap .i64 ((i : Int) + 1) = ((i + 1 : Nat) : Int) := by rw [w64 (by omega) (by omega)]; omega
def selF (p : Int → Bool) : Nat → Nat → List Int
 | 0, _ => []
 | m + 1, i => if p i = true then (i : Int) :: selF p m (i + 1) else selF p m (i + 1)
def sel (p : Int → Bool) : List Int := selF p 64 0
theorem selF_congr {p q : Int → Bool} : ∀ (m i : Nat), (∀ j : Nat, i ≤ j → j < i + m → p j = q j) → selF p m i = selF q m i
 | 0, _, _ => rfl
 | m + 1, i, h => by rw [selF, selF, h i (by omega) (by omega), selF_congr m (i + 1) (fun j h1 h2 => h j (by omega) (by omega))]
theorem sel_congr {p q : Int → Bool} (h : ∀ j : Nat, j < 64 → p j = q j) : sel p = sel q := selF_congr 64 0 fun j _ h2 => h j (by omega)
theorem mem_selF {p : Int → Bool} {x : Int} : ∀ (m i : Nat), x ∈ selF p m i ↔ (i : Int) ≤ x ∧ x < i + m ∧ p x = true
 | 0, i => by simp [selF]; omega
 | m + 1, i => by
  rw [selF]
  have ih := mem_selF (p := p) (x := x) m (i + 1)
  split
  ·rename_i h
   rw [List.mem_cons, ih]
   constructor
   ·rintro (rfl | h1)
    ·exact ⟨by omega, by omega, h⟩
    ·exact ⟨by omega, by omega, h1.2.2⟩
   ·rintro ⟨h1, h2, h3⟩
    by_cases e : x = i
    ·exact .inl e
    ·exact .inr ⟨by omega, by omega, h3⟩
  ·rename_i h
   rw [ih]
   constructor
   ·rintro ⟨h1, h2, h3⟩; exact ⟨by omega, by omega, h3⟩
   ·rintro ⟨h1, h2, h3⟩
    have : x ≠ i := by rintro rfl; exact h h3
    exact ⟨by omega, by omega, h3⟩
theorem mem_sel {p : Int → Bool} {x : Int} : x ∈ sel p ↔ 0 ≤ x ∧ x < 64 ∧ p x = true := by
 rw [sel, mem_selF]; simp
theorem selF_len {p : Int → Bool} : ∀ (m i : Nat), (selF p m i).length ≤ m
 | 0, _ => by simp [selF]
 | m + 1, i => by
  have := selF_len (p := p) m (i + 1)
  rw [selF]; split <;> simp <;> omega
theorem sel_len (p : Int → Bool) : (sel p).length ≤ 64 := selF_len 64 0
def asc (p : Int) : List Int → Bool
 | [] => true
 | x :: l => decide (0 ≤ x) && decide (x < 64) && decide (p < x) && asc x l
theorem asc_selF {p : Int → Bool} : ∀ (m i : Nat) (q : Int), q < i → i + m ≤ 64 → asc q (selF p m i) = true
 | 0, _, _, _, _ => rfl
 | m + 1, i, q, h, h1 => by
  rw [selF]
  split
  ·simp only [asc, Bool.and_eq_true, decide_eq_true_eq]
   exact ⟨⟨⟨by omega, by omega⟩, h⟩, asc_selF m (i + 1) i (by omega) (by omega)⟩
  ·exact asc_selF m (i + 1) q (by omega) (by omega)
theorem asc_len : ∀ {l : List Int} {p : Int}, asc p l = true → -1 ≤ p → p ≤ 63 → (l.length : Int) ≤ 63 - p
 | [], p, _, h1, h2 => by simp; omega
 | x :: l, p, h, h1, h2 => by
  simp [asc] at h
  have := asc_len (l := l) (p := x) h.2 (by omega) (by omega)
  simp; omega
theorem asc_range : ∀ {l : List Int} {p : Int}, asc p l = true → ∀ x ∈ l, 0 ≤ x ∧ x < 64
 | [], p, _, x, hx => by simp at hx
 | y :: l, p, h, x, hx => by
  simp [asc] at h
  rcases List.mem_cons.1 hx with rfl | hx
  ·omega
  ·exact asc_range h.2 x hx
def okR (l : List Int) : Bool := !l.isEmpty && asc (-1) l
theorem okR_sel (p : Int → Bool) (h : sel p ≠ []) : okR (sel p) = true := by
 unfold okR
 rw [show asc (-1) (sel p) = true from asc_selF 64 0 (-1) (by omega) (by omega)]
 simp [h]
def setJ (a b : List Int) : List Int := sel fun j => decide (j ∈ a) || decide (j ∈ b)
def setM (a b : List Int) : List Int := sel fun j => decide (j ∈ a) && !decide (j ∈ b)
theorem setJ_len (a b : List Int) : (setJ a b).length ≤ 64 := sel_len _
theorem setM_len (a b : List Int) : (setM a b).length ≤ 64 := sel_len _
theorem idx_get {α β : Type} {l : List α} {i : Nat} {x : α} {f : α → Option β} (h : l[i]? = some x) : idx l (i : Int) f = f x := by
 obtain ⟨h1, h2⟩ := List.getElem?_eq_some_iff.1 h
 rw [idx_pos h1, h2]
def prevOf (l : List Int) (i : Nat) : Int := if i = 0 then -1 else l.getD (i - 1) 0
end Go.TF
