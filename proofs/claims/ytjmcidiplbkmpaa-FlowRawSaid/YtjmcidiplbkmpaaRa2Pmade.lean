/- Plain laws: what the dice of the made lists say. -/
import Derived.Test.YtjmcidiplbkmpaaRa2Pl
set_option linter.unusedVariables false
set_option linter.unusedSimpArgs false
namespace Go.TF
open Go Go.Abs
def modF (a b : Int) : Int := if b < 1 then 0 else if Int.tmod a b < 0 then IntKind.wrap .i64 (Int.tmod a b + b) else Int.tmod a b
theorem modF_range (a b : Int) (h1 : 1 ≤ b) (h2 : b ≤ 1000000000) : 0 ≤ modF a b ∧ modF a b < b := by
 have := Int.tmod_lt_of_pos a (show 0 < b by omega)
 have := Int.lt_tmod_of_pos a (show 0 < b by omega)
 unfold modF
 rw [if_neg (by omega)]
 split
 ·rw [w64 (by omega) (by omega)]; omega
 ·omega
abbrev Pos (p : Int) : Prop := 0 ≤ p ∧ p ≤ 1000
theorem bI_ofI (l : List Int) (h : ∀ x ∈ l, 0 ≤ x ∧ x ≤ 255) : bI (ofI l) = l := by
 unfold ofI bI
 rw [List.map_map]
 conv => rhs; rw [← List.map_id l]
 refine List.map_congr_left fun x hx => ?_
 have := h x hx
 simp
 omega
theorem strEq_ofI (a b : List Int) (ha : ∀ x ∈ a, 0 ≤ x ∧ x ≤ 255) (hb : ∀ x ∈ b, 0 ≤ x ∧ x ≤ 255) : strEq (ofI a) (ofI b) = decide (a = b) := by
 by_cases e : a = b
 ·subst e; simp [strEq_self]
 ·have : ¬ strEq (ofI a) (ofI b) = true := fun h => e (by rw [← bI_ofI a ha, ← bI_ofI b hb, (strEq_iff _ _).1 h])
  simp only [Bool.not_eq_true] at this
  rw [this]; simp [e]
end Go.TF
