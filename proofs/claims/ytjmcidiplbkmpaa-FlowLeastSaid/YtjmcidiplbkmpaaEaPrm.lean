/- Plain laws: greatest flows of the reference; sides and their capacities. -/
import Derived.Test.YtjmcidiplbkmpaaEaPrs
set_option linter.unusedVariables false
set_option linter.unusedSimpArgs false
namespace Go.TF
open Go Go.Abs
theorem rb_at {V W : Vs} {t : Int} {s : Mf.Step} (h : t ∉ W.map (·.1)) : rb (W ++ (t, s) :: V) t = if s.2 then -((s.1 : Int) + 1) else (s.1 : Int) + 1 := by
 unfold rb; rw [lk_at h]
theorem r15Check_loop (k : Nat) (N : Int) (A : List api_Arc) (h9 : A.length ≤ 1000000) : ∀ (m i n : Nat), i + m = A.length → m < n → ref15_Check.L1 k N A n (i : Int) = some (if (A.drop i).all (okA N) then 0 else 16)
 | 0, i, n + 1, h, _ => by rw [ref15_Check.L1, if_neg (by omega), List.drop_eq_nil_of_le (by omega)]; rfl
 | m + 1, i, n + 1, h, hn => by
  have hi : i < A.length := by omega
  have ih := r15Check_loop k N A h9 m (i + 1) n (by omega) (by omega)
  rw [ref15_Check.L1, if_pos (by omega), idx_pos hi, List.drop_eq_getElem_cons hi, List.all_cons, sc64 i (by omega), ih]
  have bad : okA N A[i] = false → (some 16 : Option Int) = some (if (okA N A[i] && (A.drop (i + 1)).all (okA N)) = true then 0 else 16) := fun z => by rw [z]; rfl
  by_cases a1 : A[i].From < 0
  ·rw [if_pos a1]; exact bad (by unfold okA; rw [decide_eq_false_iff_not]; omega)
  rw [if_neg a1]
  by_cases a2 : N ≤ A[i].From
  ·rw [if_pos a2]; exact bad (by unfold okA; rw [decide_eq_false_iff_not]; omega)
  rw [if_neg a2]
  by_cases a3 : A[i].To < 0
  ·rw [if_pos a3]; exact bad (by unfold okA; rw [decide_eq_false_iff_not]; omega)
  rw [if_neg a3]
  by_cases a4 : N ≤ A[i].To
  ·rw [if_pos a4]; exact bad (by unfold okA; rw [decide_eq_false_iff_not]; omega)
  rw [if_neg a4]
  by_cases a5 : A[i].From = A[i].To
  ·rw [if_pos a5]; exact bad (by unfold okA; rw [decide_eq_false_iff_not]; omega)
  rw [if_neg a5]
  by_cases a6 : A[i].To = 0
  ·rw [if_pos a6]; exact bad (by unfold okA; rw [decide_eq_false_iff_not]; omega)
  rw [if_neg a6]
  by_cases a7 : A[i].From = 1
  ·rw [if_pos a7]; exact bad (by unfold okA; rw [decide_eq_false_iff_not]; omega)
  rw [if_neg a7]
  by_cases a8 : A[i].Cap < 0
  ·rw [if_pos a8]; exact bad (by unfold okA; rw [decide_eq_false_iff_not]; omega)
  rw [if_neg a8]
  by_cases a9 : 1048576 < A[i].Cap
  ·rw [if_pos a9]; exact bad (by unfold okA; rw [decide_eq_false_iff_not]; omega)
  rw [if_neg a9]
  have : okA N A[i] = true := by unfold okA; rw [decide_eq_true_eq]; omega
  rw [this, Bool.true_and]
theorem r15Check_eq (k : Nat) (N : Int) (A : List api_Arc) (hk : 1200 < k) : ref15_Check k N A = some (if chkN N A then 0 else 16) := by
 unfold ref15_Check chkN
 by_cases h1 : N < 2
 ·rw [if_pos h1, decide_eq_false (by omega)]; rfl
 rw [if_neg h1]
 by_cases h2 : 130 < N
 ·rw [if_pos h2, decide_eq_false (by omega)]; rfl
 rw [if_neg h2]
 by_cases h3 : 1200 < (A.length : Int)
 ·rw [if_pos h3, decide_eq_false (by omega)]; rfl
 rw [if_neg h3, decide_eq_true (by omega), Bool.true_and]
 exact r15Check_loop k N A (by omega) A.length 0 k (by omega) (by omega)
end Go.TF
