/- The law GuardianBack. -/
import Derived.Test.YtepdfenlkeaefaaHPgall
set_option linter.unusedVariables false
set_option linter.unusedSimpArgs false
namespace Go.TF
open Go Go.Abs
def prevB (num : Int) : ByteArray := if 0 < num then ofI (List.replicate 32 0) else ByteArray.mk #[]
theorem prevB_size (num : Int) (h : 0 < num) : (prevB num).size = 32 := by unfold prevB; rw [if_pos h]; simp [ofI, ByteArray.size]
theorem allV_range (l : List Int) (h : ∀ x ∈ l, 0 ≤ x ∧ x < 64) : allV l = true := by
 refine List.all_eq_true.2 fun x hx => ?_
 have := h x hx
 simp only [bIn, Bool.and_eq_true, decide_eq_true_eq]; omega
theorem chk_guard (o num n : Int) (g : List Int) (h : okG o n g = true) (h0 : 0 ≤ num) (h1 : num ≤ 199) : chkS o num (prevB num) 0 12 n 0 0 g [] (ByteArray.mk #[]) = 0 := by
 have hk := okG_key h
 have hl := okG_len h
 have hg : allV g = true := by
  simp only [okG, Bool.and_eq_true] at h
  exact allV_range g (asc_range h.1.1)
 have hn : 1 ≤ n ∧ n ≤ 12 := by
  simp only [okG, endG, Bool.and_eq_true, decide_eq_true_eq] at h
  omega
 unfold chkS
 rw [if_pos (by simp only [bIn, Bool.and_eq_true, decide_eq_true_eq]; omega), if_pos (by decide), if_pos (by decide), if_pos, if_pos ⟨by omega, by simp, Nat.zero_le _⟩, if_pos]
 ·unfold formB
  have : (if num = 0 then strEq (prevB num) (ByteArray.mk #[]) else if 0 < num then decide ((prevB num).size = 32) else true) = true := by
   by_cases a : num = 0
   ·subst a; rfl
   ·rw [if_neg a, if_pos (by omega), prevB_size num (by omega)]; rfl
  rw [this]
  rfl
 ·unfold numsB
  rw [hg]
  have hm : meantB o 0 12 n 0 0 = true := by rfl
  rw [hm]
  have e1 : bIn num 0 199 = true := by simp only [bIn, Bool.and_eq_true, decide_eq_true_eq]; omega
  have e2 : bIn n 0 1099511627776 = true := by simp only [bIn, Bool.and_eq_true, decide_eq_true_eq]; omega
  rw [e1, e2]
  rfl
def guardS (o num n : Int) (g : List Int) : api_Statement := ⟨o, num, prevB num, 0, 12, n, 0, 0, g, [], ByteArray.mk #[], o, digS o num (prevB num) 0 12 n 0 0 g [] (ByteArray.mk #[])⟩
theorem ofS_guard (o num n : Int) (g : List Int) (h : okG o n g = true) (h0 : 0 ≤ num) (h1 : num ≤ 199) : ofS (guardS o num n g) = (o, n, g, 0) := by
 unfold ofS ofF guardS
 simp only
 rw [if_neg (by rw [chk_guard o num n g h h0 h1]; simp), if_pos]
 unfold sealB
 rw [strEq_self, h]
 simp [strEq_self]
theorem ofS_key (o num n key : Int) (g : List Int) (h : okG o n g = true) (h0 : 0 ≤ num) (h1 : num ≤ 199) (hk : ¬ key = o) : ofS { guardS o num n g with Seal_Key := key } = (0, 0, [], 47) := by
 unfold ofS ofF guardS
 simp only
 rw [if_neg (by rw [chk_guard o num n g h h0 h1]; simp), if_neg]
 unfold sealB
 simp [hk]
end Go.TF
