/- Plain laws: lists of keys and of edges, and what the checks of graphs say. -/
import Derived.Test.YtjmcidiplbkmpaaRa2Pmade
set_option linter.unusedVariables false
set_option linter.unusedSimpArgs false
namespace Go.TF
open Go Go.Abs
theorem sc64 (i : Nat) (h : i < 9223372036854775807) : IntKind.wrap .i64 ((i : Int) + 1) = ((i + 1 : Nat) : Int) := by rw [w64 (by omega) (by omega)]; omega
theorem pr64 (i : Nat) (h : i < 9223372036854775806) : IntKind.wrap .i64 (((i + 1 : Nat) : Int) - 1) = (i : Int) := by rw [w64 (by omega) (by omega)]; omega
def prv {α : Type} (l : List α) : Nat → Option α
 | 0 => none
 | i + 1 => l[i]?
theorem prv_s {α : Type} {l : List α} {i : Nat} (h : i < l.length) : prv l (i + 1) = some l[i] := List.getElem?_eq_getElem h
def loI : Option Int → Int → Bool
 | none, _ => true
 | some y, x => decide (y < x)
def setF (N : Int) : Option Int → List Int → Bool
 | _, [] => true
 | p, x :: l => decide (0 ≤ x) && decide (x < N) && loI p x && setF N (some x) l
theorem setF_iff' (N : Int) : ∀ (l : List Int) (p : Option Int), setF N p l = true ↔ (∀ x ∈ l, 0 ≤ x ∧ x < N) ∧ l.Pairwise (· < ·) ∧ (∀ q, p = some q → ∀ x ∈ l, q < x)
 | [], p => by simp [setF]
 | x :: l, p => by
  rw [setF]
  simp only [Bool.and_eq_true, decide_eq_true_eq, setF_iff' N l (some x), List.mem_cons, List.pairwise_cons]
  constructor
  ·rintro ⟨⟨⟨h1, h2⟩, h3⟩, h4, h5, h6⟩
   refine ⟨fun y hy => ?_, ⟨fun y hy => h6 x rfl y hy, h5⟩, fun q hq y hy => ?_⟩
   ·rcases hy with rfl | hy
    ·exact ⟨h1, h2⟩
    ·exact h4 y hy
   ·subst hq
    simp only [loI, decide_eq_true_eq] at h3
    rcases hy with rfl | hy
    ·exact h3
    ·have := h6 x rfl y hy; omega
  ·rintro ⟨h1, ⟨h2, h3⟩, h4⟩
   refine ⟨⟨h1 x (.inl rfl), ?_⟩, fun y hy => h1 y (.inr hy), h3, fun q hq y hy => ?_⟩
   ·cases p with
    | none => rfl
    | some q => simp only [loI, decide_eq_true_eq]; exact h4 q rfl x (.inl rfl)
   ·simp only [Option.some.injEq] at hq; subst hq; exact h2 y hy
theorem setF_iff (N : Int) (l : List Int) : setF N none l = true ↔ (∀ x ∈ l, 0 ≤ x ∧ x < N) ∧ l.Pairwise (· < ·) := by
 rw [setF_iff']; simp
theorem asc_len : ∀ (l : List Int) (a N : Int), (∀ x ∈ l, a ≤ x ∧ x < N) → l.Pairwise (· < ·) → a ≤ N → (l.length : Int) ≤ N - a
 | [], a, N, _, _, h => by simp; omega
 | x :: l, a, N, h1, h2, h => by
  rw [List.pairwise_cons] at h2
  have hx := h1 x (by simp)
  have := asc_len l (x + 1) N (fun y hy => ⟨by have := h2.1 y hy; omega, (h1 y (by simp [hy])).2⟩) h2.2 (by omega)
  simp only [List.length_cons]; omega
end Go.TF
