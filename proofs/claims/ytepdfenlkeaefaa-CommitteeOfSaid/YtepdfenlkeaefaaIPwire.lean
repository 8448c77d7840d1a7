/- Plain laws of layer 2: what is written. -/
import Derived.Test.YtepdfenlkeaefaaIPl
set_option linter.unusedVariables false
set_option linter.unusedSimpArgs false
namespace Go.TF
open Go Go.Abs
def encL (v : Int) : Nat → List Int
 | 0 => []
 | j + 1 => (v / 2 ^ (8 * j) % 256) :: encL v j
theorem encL_length (v : Int) : ∀ j, (encL v j).length = j
 | 0 => rfl
 | j + 1 => by simp [encL, encL_length v j]
def enc (v : Int) : List Int := encL v 8
theorem enc_length (v : Int) : (enc v).length = 8 := encL_length v 8
theorem byte_eq (v : Int) (j : Nat) (hj : j < 8) : (v % 18446744073709551616) / 2 ^ (8 * j) % 256 = v / 2 ^ (8 * j) % 256 := by
 have : j = 0 ∨ j = 1 ∨ j = 2 ∨ j = 3 ∨ j = 4 ∨ j = 5 ∨ j = 6 ∨ j = 7 := by omega
 rcases this with rfl | rfl | rfl | rfl | rfl | rfl | rfl | rfl <;> simp <;> omega
end Go.TF
