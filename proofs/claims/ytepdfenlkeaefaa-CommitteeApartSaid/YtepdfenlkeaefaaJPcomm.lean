/- Plain laws of layer 26: committees of cases. -/
import Derived.Test.YtepdfenlkeaefaaJPfewer
import Derived.Test.YtepdfenlkeaefaaJPbnum
import Derived.Test.YtepdfenlkeaefaaJPrules
set_option linter.unusedVariables false
set_option linter.unusedSimpArgs false
namespace Go.TF
open Go Go.Abs

theorem drawL_err : ∀ (xs left out : List Int), (drawL left xs out).2 ≠ 0 → (drawL left xs out).1 = []
  | [], left, out, h => by simp [drawL] at h
  | x :: xs, left, out, h => by
    rw [drawL] at h ⊢
    split at h
    · rename_i c; rw [if_pos c]
    · rename_i c; rw [if_neg c]; exact drawL_err xs _ _ h
theorem drawF_err (l nums : List Int) (s : Int) (h : (drawF l nums s).2 ≠ 0) : (drawF l nums s).1 = [] := by
  unfold drawF at h ⊢
  split at h; · rename_i c; rw [if_pos c]
  rename_i c1; rw [if_neg c1]
  split at h; · rename_i c; rw [if_pos c]
  rename_i c2; rw [if_neg c2]
  split at h; · rename_i c; rw [if_pos c]
  rename_i c3; rw [if_neg c3]
  split at h; · rename_i c; rw [if_pos c]
  rename_i c4; rw [if_neg c4]
  exact drawL_err _ _ _ h
theorem setM_nil (l : List Int) (h : okR l = true) : setM l [] = l := by
  have e : setM l [] = setJ l [] := by unfold setM setJ; congr 1; funext j; simp
  rw [e]; exact setJ_self l l h fun _ => Iff.rfl
/-- The committees of the program and of the reference. -/
theorem ofI_sz26 (l : List Int) : (ofI l).size = l.length := by simp [ofI, ByteArray.size]
end Go.TF
