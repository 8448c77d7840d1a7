/- Plain laws of layer 26: drawing. -/
import Derived.Test.YtepdfenlkeaefaaIPsets
import Derived.Test.YtepdfenlkeaefaaIPmaj
import Derived.Test.YtepdfenlkeaefaaIPmade
set_option linter.unusedVariables false
set_option linter.unusedSimpArgs false
namespace Go.TF
open Go Go.Abs
def drawL : List Int → List Int → List Int → List Int × Int
 | _, [], out => (out, 0)
 | left, x :: xs, out => if x < 0 then ([], 44) else drawL (left.take (x % left.length).toNat ++ left.drop ((x % left.length).toNat + 1)) xs (out ++ [left.getD (x % left.length).toNat 0])
theorem drawL_len : ∀ (xs left out : List Int), (drawL left xs out).1.length ≤ out.length + xs.length
 | [], _, _ => by simp [drawL]
 | x :: xs, left, out => by
  rw [drawL]
  split
  ·simp
  ·have := drawL_len xs (left.take (x % left.length).toNat ++ left.drop ((x % left.length).toNat + 1)) (out ++ [left.getD (x % left.length).toNat 0])
   simp at this ⊢; omega
theorem rest_len (left : List Int) (j : Nat) (h : j < left.length) : (left.take j ++ left.drop (j + 1)).length = left.length - 1 := by simp; omega
theorem draw_loop (k : Nat) (v1 : List Int) (v6 : Int) (N : Nat) (hN : v6 = N) (hN1 : N ≤ v1.length) (hN9 : N ≤ 1000) : ∀ (m i n : Nat) (left out : List Int), i + m = N → m < n → m ≤ left.length → left.length ≤ 1000 → out.length ≤ i →
 committee_Draw.L1 k v1 v6 n left (i : Int) out = some (drawL left ((v1.take N).drop i) out)
 | 0, i, n + 1, left, out, h, _, _, _, _ => by
  have hl : (v1.take v6.toNat).length = N := by rw [hN]; simp; omega
  rw [committee_Draw.L1, hl, if_neg (by omega), List.drop_of_length_le (by simp; omega)]; rfl
 | m + 1, i, n + 1, left, out, h, hn, hm, hl9, ho => by
  have hl : (v1.take v6.toNat).length = N := by rw [hN]; simp; omega
  have hl2 : (v1.take N).length = N := by simp; omega
  have hi : i < (v1.take v6.toNat).length := by omega
  have hi2 : i < (v1.take N).length := by omega
  have he : (v1.take v6.toNat)[i] = (v1.take N)[i] := by subst hN; rfl
  rw [committee_Draw.L1, if_pos (by omega), idx_pos hi, he, List.drop_eq_getElem_cons hi2, drawL]
  generalize (v1.take N)[i] = x
  by_cases hx : x < 0
  ·rw [if_pos hx, if_pos hx]
  rw [if_neg hx, if_neg hx, Int.tmod_eq_emod_of_nonneg (by omega)]
  have hr := Int.emod_nonneg x (show (left.length : Int) ≠ 0 by omega)
  have hr2 := Int.emod_lt_of_pos x (show (0 : Int) < left.length by omega)
  obtain ⟨j, hj⟩ := Int.eq_ofNat_of_zero_le hr
  rw [hj] at hr2 ⊢
  have hjl : j < left.length := by omega
  rw [chk_pos (by omega), idx_pos hjl, chk_pos (by simp only [List.length_cons, List.length_nil]; omega), chk_pos (by omega), w64 (n := (j : Int) + 1) (by omega) (by omega), chk_pos (by omega), show ((j : Int) + 1).toNat = j + 1 by omega, Int.toNat_natCast]
  have hrl := rest_len left j hjl
  rw [chk_pos (by rw [← List.length_append, hrl]; omega), succ64 _ (by omega), draw_loop k v1 v6 N hN hN1 hN9 m (i + 1) n _ _ (by omega) (by omega) (by rw [hrl]; omega) (by rw [hrl]; omega) (by simp only [List.length_append, List.length_cons, List.length_nil]; omega)]
  simp [List.getD_eq_getElem?_getD, hjl]
theorem refDraw_loop (k : Nat) (v1 : List Int) (v6 : Int) (N : Nat) (hN : v6 = N) (hN1 : N ≤ v1.length) (hN9 : N ≤ 1000) : ∀ (m i n : Nat) (left out : List Int), i + m = N → m < n → m ≤ left.length → left.length ≤ 1000 → out.length ≤ i →
 ref26_Draw.L1 k v1 v6 n left (i : Int) out = some (drawL left ((v1.take N).drop i) out)
 | 0, i, n + 1, left, out, h, _, _, _, _ => by
  rw [ref26_Draw.L1, if_neg (by omega), List.drop_of_length_le (by simp; omega)]; rfl
 | m + 1, i, n + 1, left, out, h, hn, hm, hl9, ho => by
  have hl2 : (v1.take N).length = N := by simp; omega
  have hi : i < v1.length := by omega
  have hi2 : i < (v1.take N).length := by omega
  have he : v1[i] = (v1.take N)[i] := by simp
  rw [ref26_Draw.L1, if_pos (by omega), idx_pos hi, he, List.drop_eq_getElem_cons hi2, drawL]
  generalize (v1.take N)[i] = x
  by_cases hx : x < 0
  ·rw [if_pos hx, if_pos hx]
  rw [if_neg hx, if_neg hx, Int.tmod_eq_emod_of_nonneg (by omega)]
  have hr := Int.emod_nonneg x (show (left.length : Int) ≠ 0 by omega)
  have hr2 := Int.emod_lt_of_pos x (show (0 : Int) < left.length by omega)
  obtain ⟨j, hj⟩ := Int.eq_ofNat_of_zero_le hr
  rw [hj] at hr2 ⊢
  have hjl : j < left.length := by omega
  rw [chk_pos (by omega), idx_pos hjl, chk_pos (by simp only [List.length_cons, List.length_nil]; omega), chk_pos (by omega), chk_pos (by simp; omega), w64 (n := (j : Int) + 1) (by omega) (by omega), chk_pos (by omega), show ((j : Int) + 1).toNat = j + 1 by omega, Int.toNat_natCast]
  have hrl := rest_len left j hjl
  rw [chk_pos (by rw [← List.length_append, hrl]; omega), succ64 _ (by omega), refDraw_loop k v1 v6 N hN hN1 hN9 m (i + 1) n _ _ (by omega) (by omega) (by rw [hrl]; omega) (by rw [hrl]; omega) (by simp only [List.length_append, List.length_cons, List.length_nil]; omega)]
  simp [List.getD_eq_getElem?_getD, hjl]
def cnt (l : List Int) (s : Int) : Int := if (l.length : Int) < s then l.length else s
def drawF (l nums : List Int) (s : Int) : List Int × Int :=
 if (!okR l) = true then ([], 43) else if s < 1 then ([], 44) else if 9 < s then ([], 44) else if (nums.length : Int) < cnt l s then ([], 44) else drawL l (nums.take (cnt l s).toNat) []
theorem okR_pos {l : List Int} (h : okR l = true) : 0 < l.length ∧ l.length ≤ 64 := by
 simp [okR] at h
 have := asc_len h.2 (by omega) (by omega)
 exact ⟨List.length_pos_iff.2 h.1, by omega⟩
theorem Draw_eq (k : Nat) (l nums : List Int) (s : Int) (hk : l.length < k) (hk2 : 100 < k) (hl : l.length ≤ 9223372036854775807) : committee_Draw k l nums s = some (drawF l nums s) := by
 unfold committee_Draw drawF
 rw [Valid_eq k l hk hl, bnd1_some]
 split; · rfl
 rename_i ho
 have ho : okR l = true := by simpa using ho
 have hp := okR_pos ho
 simp only [let1_eq]
 rw [show (if (l.length : Int) < s then (l.length : Int) else s) = cnt l s from rfl]
 split; · rfl
 split; · rfl
 split; · rfl
 have hc : 0 ≤ cnt l s ∧ cnt l s ≤ l.length ∧ cnt l s ≤ 9 := by unfold cnt; split <;> omega
 unfold slices_Clone_int_int
 rw [chk_pos (by omega), bnd1_some, chk_pos (by omega)]
 obtain ⟨N, hN⟩ := Int.eq_ofNat_of_zero_le hc.1
 have := draw_loop k nums (cnt l s) N hN (by omega) (by omega) N 0 k l [] (by omega) (by omega) (by omega) (by omega) (by simp)
 rw [hN] at this ⊢
 simpa using this
theorem refDraw_eq (k : Nat) (l nums : List Int) (s : Int) (hk : l.length < k) (hk2 : 100 < k) (hl : l.length ≤ 9223372036854775807) : ref26_Draw k l nums s = some (drawF l nums s) := by
 unfold ref26_Draw drawF
 rw [refValid_eq k l hk hl, bnd1_some]
 split; · rfl
 rename_i ho
 have ho : okR l = true := by simpa using ho
 have hp := okR_pos ho
 simp only [let1_eq]
 rw [show (if (l.length : Int) < s then (l.length : Int) else s) = cnt l s from rfl]
 split; · rfl
 split; · rfl
 split; · rfl
 have hc : 0 ≤ cnt l s ∧ cnt l s ≤ l.length ∧ cnt l s ≤ 9 := by unfold cnt; split <;> omega
 rw [chk_pos (by omega)]
 obtain ⟨N, hN⟩ := Int.eq_ofNat_of_zero_le hc.1
 have := refDraw_loop k nums (cnt l s) N hN (by omega) (by omega) N 0 k l [] (by omega) (by omega) (by omega) (by omega) (by simp)
 rw [hN] at this ⊢
 simpa using this
theorem drawF_len (l nums : List Int) (s : Int) : (drawF l nums s).1.length ≤ 9 := by
 unfold drawF
 split; · simp
 split; · simp
 split; · simp
 split; · simp
 have := drawL_len (nums.take (cnt l s).toNat) l []
 have hc : cnt l s ≤ 9 := by unfold cnt; split <;> omega
 simp at this
 omega
theorem Quorum_some (s : Int) : ∃ r, committee_Quorum 1000 s = some r := by
 unfold committee_Quorum; split; · exact ⟨_, rfl⟩
 split <;> exact ⟨_, rfl⟩
end Go.TF
