/- Plain laws of layer 26: drawing. -/
import Derived.Test.YtepdfenlkeaefaaFPsets
import Derived.Test.YtepdfenlkeaefaaFPmaj
import Derived.Test.YtepdfenlkeaefaaFPmade
set_option linter.unusedVariables false
set_option linter.unusedSimpArgs false
namespace Go.TF
open Go Go.Abs
def drawL : List Int → List Int → List Int → List Int × Int
 | _, [], out => (out, 0)
 | left, x :: xs, out => if x < 0 then ([], 44) else drawL (left.take (x % left.length).toNat ++ left.drop ((x % left.length).toNat + 1)) xs (out ++ [left.getD (x % left.length).toNat 0])
theorem drawL_len : ∀ (xs left out : List Int), (drawL left xs out).1.length ≤ out.length + xs.length
 | [], _, _ => by simp [drawL]
 | x :: xs, left, out => by
  rw [drawL]
  split
  ·simp
  ·have := drawL_len xs (left.take (x % left.length).toNat ++ left.drop ((x % left.length).toNat + 1)) (out ++ [left.getD (x % left.length).toNat 0])
   simp at this ⊢; omega
theorem rest_len (left : List Int) (j : Nat) (h : j < left.length) : (left.take j ++ left.drop (j + 1)).length = left.length - 1 := by simp; omega
def cnt (l : List Int) (s : Int) : Int := if (l.length : Int) < s then l.length else s
def drawF (l nums : List Int) (s : Int) : List Int × Int :=
 if (!okR l) = true then ([], 43) else if s < 1 then ([], 44) else if 9 < s then ([], 44) else if (nums.length : Int) < cnt l s then ([], 44) else drawL l (nums.take (cnt l s).toNat) []
theorem okR_pos {l : List Int} (h : okR l = true) : 0 < l.length ∧ l.length ≤ 64 := by
 simp [okR] at h
 have := asc_len h.2 (by omega) (by omega)
 exact ⟨List.length_pos_iff.2 h.1, by omega⟩
theorem drawF_len (l nums : List Int) (s : Int) : (drawF l nums s).1.length ≤ 9 := by
 unfold drawF
 split; · simp
 split; · simp
 split; · simp
 split; · simp
 have := drawL_len (nums.take (cnt l s).toNat) l []
 have hc : cnt l s ≤ 9 := by unfold cnt; split <;> omega
 simp at this
 omega
theorem millMod_eq (k : Nat) (a b : Int) : mill_Mod k a b = some (modF a b) := by unfold mill_Mod; rw [Mod_eq]; rfl
end Go.TF
