/- Plain laws of layer 26: what a majority bears. -/
import Derived.Test.YtepdfenlkeaefaaIPl
set_option linter.unusedVariables false
set_option linter.unusedSimpArgs false
namespace Go.TF
open Go Go.Abs
theorem awake26 : law26_awake 1000 = some true := by decide +kernel
theorem tmod_range (a b : Int) (h : 0 ≤ a) (hb : 0 < b) : 0 ≤ Int.tmod a b ∧ Int.tmod a b < b := by
 rw [Int.tmod_eq_emod_of_nonneg h]
 exact ⟨Int.emod_nonneg _ (by omega), Int.emod_lt_of_pos _ hb⟩
end Go.TF
