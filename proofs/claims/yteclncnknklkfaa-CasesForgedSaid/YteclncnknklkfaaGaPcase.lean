/- Plain laws of layer 23: cases, contents, drafts, votes. -/
import Derived.Test.YteclncnknklkfaaGaPseal
set_option linter.unusedVariables false
set_option linter.unusedSimpArgs false
namespace Go.TF
open Go Go.Abs
def okC (e d s r : Int) : Bool := if 0 ≤ e ∧ e < 40 ∧ 0 ≤ s ∧ s < 64 ∧ 0 ≤ r ∧ r ≤ 1 then (if d = 1 then decide (s = 0 ∧ r = 0) else decide (d = 2 ∨ d = 3)) else false
theorem cValid_eq (k : Nat) (e d s r : Int) : cases_Valid k e d s r = some (okC e d s r) := by
 unfold cases_Valid cases_Valid.J1 okC
 by_cases a : 0 ≤ e ∧ e < 40 ∧ 0 ≤ s ∧ s < 64 ∧ 0 ≤ r ∧ r ≤ 1
 ·rw [if_pos a, if_neg (by omega), if_neg (by omega), if_neg (by omega), if_neg (by omega), if_neg (by omega), if_neg (by omega)]
  by_cases h1 : d = 1
  ·rw [if_pos h1, if_pos h1]
   by_cases h2 : s = 0 <;> by_cases h3 : r = 0 <;> simp [h2, h3]
  ·rw [if_neg h1, if_neg h1]
   by_cases h2 : d = 2
   ·simp [h2]
   ·rw [if_neg h2]; by_cases h3 : d = 3 <;> simp [h2, h3]
 ·rw [if_neg a]
  by_cases b1 : e < 0
  ·rw [if_pos b1]
  by_cases b2 : 40 ≤ e
  ·rw [if_neg b1, if_pos b2]
  by_cases b3 : s < 0
  ·rw [if_neg b1, if_neg b2, if_pos b3]
  by_cases b4 : 64 ≤ s
  ·rw [if_neg b1, if_neg b2, if_neg b3, if_pos b4]
  by_cases b5 : r < 0
  ·rw [if_neg b1, if_neg b2, if_neg b3, if_neg b4, if_pos b5]
  by_cases b6 : 1 < r
  ·rw [if_neg b1, if_neg b2, if_neg b3, if_neg b4, if_neg b5, if_pos b6]
  ·omega
theorem rValid_eq (k : Nat) (e d s r : Int) : ref23_Valid k e d s r = some (okC e d s r) := by
 unfold ref23_Valid ref23_Valid.J1 okC
 by_cases a : 0 ≤ e ∧ e < 40 ∧ 0 ≤ s ∧ s < 64 ∧ 0 ≤ r ∧ r ≤ 1
 ·rw [if_pos a, if_neg (by omega), if_neg (by omega), if_neg (by omega), if_neg (by omega), if_neg (by omega), if_neg (by omega)]
  by_cases h1 : d = 1
  ·rw [if_pos h1, if_pos h1]
   by_cases h2 : s = 0 <;> by_cases h3 : r = 0 <;> simp [h2, h3]
  ·rw [if_neg h1, if_neg h1]
   by_cases h2 : d = 2
   ·simp [h2]
   ·rw [if_neg h2]; by_cases h3 : d = 3 <;> simp [h2, h3]
 ·rw [if_neg a]
  by_cases b1 : e < 0
  ·rw [if_pos b1]
  by_cases b2 : 40 ≤ e
  ·rw [if_neg b1, if_pos b2]
  by_cases b3 : s < 0
  ·rw [if_neg b1, if_neg b2, if_pos b3]
  by_cases b4 : 64 ≤ s
  ·rw [if_neg b1, if_neg b2, if_neg b3, if_pos b4]
  by_cases b5 : r < 0
  ·rw [if_neg b1, if_neg b2, if_neg b3, if_neg b4, if_pos b5]
  by_cases b6 : 1 < r
  ·rw [if_neg b1, if_neg b2, if_neg b3, if_neg b4, if_neg b5, if_pos b6]
  ·omega
theorem okC_iff {e d s r : Int} (h : okC e d s r = true) : 0 ≤ e ∧ e < 40 ∧ 0 ≤ s ∧ s < 64 ∧ 0 ≤ r ∧ r ≤ 1 ∧ 1 ≤ d ∧ d ≤ 3 := by
 unfold okC at h
 split at h
 ·split at h
  ·omega
  ·simp only [decide_eq_true_eq] at h; omega
 ·cases h
def codeC (e d s r : Int) : Int := if okC e d s r = true then d + 16 * r else 0
theorem code_w {e d s r : Int} (h : okC e d s r = true) : IntKind.wrap .i64 (d + IntKind.wrap .i64 (16 * r)) = d + 16 * r := by
 have := okC_iff h
 rw [w64 (n := 16 * r) (by omega) (by omega), w64 (by omega) (by omega)]
theorem cCode_eq (k : Nat) (e d s r : Int) : cases_Code k e d s r = some (codeC e d s r) := by
 unfold cases_Code codeC
 rw [cValid_eq, bnd1_some]
 by_cases h : okC e d s r = true
 ·rw [if_neg (by simp [h]), if_pos h, code_w h]
 ·rw [if_pos (by simpa using h), if_neg h]
theorem rCode_eq (k : Nat) (e d s r : Int) : ref23_Code k e d s r = some (codeC e d s r) := by
 unfold ref23_Code codeC
 rw [rValid_eq, bnd1_some]
 by_cases h : okC e d s r = true
 ·rw [if_neg (by simp [h]), if_pos h, code_w h]
 ·rw [if_pos (by simpa using h), if_neg h]
def pinC (p : List api_Pin) : Int := chkS 0 0 (ByteArray.mk #[]) 0 10 0 0 0 [] p (ByteArray.mk #[])
theorem cpins_eq (k : Nat) (p : List api_Pin) (hk : p.length < k) : cases_pins k p = some (decide (pinC p = 0)) := by
 unfold cases_pins
 rw [Check_p k _ _ _ _ _ _ _ _ _ _ _ _ _ (by simp) (by simp; omega) hk, bnd1_some]
 rw [beq0]; rfl
theorem pinC_len {p : List api_Pin} (h : pinC p = 0) : p.length ≤ 64 := (chk0_size h).q
def allB (m : Int) (x : List Int) : Bool := x.all fun a => bIn a 0 m
def cntB (d : Int) (x : List Int) : Bool := if d = 1 then allB 4294967295 x && ((x.length : Int) == 2) else allB 1 x && ((x.length : Int) == 1)
def rightB (e d s r : Int) (x : List Int) (p : List api_Pin) : Bool := okC e d s r && (decide (pinC p = 0) && cntB d x)
theorem right_loop (k : Nat) (x : List Int) (c m : Int) (h9 : x.length ≤ 9223372036854775807) : ∀ (j i n : Nat), i + j = x.length → j < n → cases_Right.L2 k x c m n (i : Int) = some (allB m (x.drop i) && ((x.length : Int) == c))
 | 0, i, n + 1, h, _ => by rw [cases_Right.L2, if_neg (by omega), List.drop_of_length_le (by omega)]; simp [allB]
 | j + 1, i, n + 1, h, hn => by
  have h1 : i < x.length := by omega
  rw [cases_Right.L2, if_pos (by omega), idx_pos h1, List.drop_eq_getElem_cons h1]
  have e1 : allB m (x[i] :: x.drop (i + 1)) = (bIn x[i] 0 m && allB m (x.drop (i + 1))) := by unfold allB; rw [List.all_cons]
  rw [e1]
  by_cases a : x[i] < 0
  ·rw [if_pos a, show bIn x[i] 0 m = false by simp [bIn]; omega]; rfl
  rw [if_neg a]
  by_cases b : m < x[i]
  ·rw [if_pos b, show bIn x[i] 0 m = false by simp [bIn]; omega]; rfl
  rw [if_neg b, show bIn x[i] 0 m = true by simp [bIn]; omega, succ64 i (by omega), right_loop k x c m h9 j (i + 1) n (by omega) (by omega)]
  simp
theorem cRight_eq (k : Nat) (e d s r : Int) (x : List Int) (p : List api_Pin) (h9 : x.length ≤ 9223372036854775807) (hx : x.length < k) (hp : p.length < k) : cases_Right k e d s r x p = some (rightB e d s r x p) := by
 unfold cases_Right rightB cases_Right.J1
 rw [cValid_eq, bnd1_some]
 cases okC e d s r
 ·rfl
 rw [if_neg (by simp), cpins_eq k p hp, bnd1_some]
 by_cases h : pinC p = 0
 ·rw [if_neg (by simp [h])]
  unfold cntB
  have l1 := right_loop k x 2 4294967295 h9 x.length 0 k (by omega) hx
  have l2 := right_loop k x 1 1 h9 x.length 0 k (by omega) hx
  rw [show ((0 : Nat) : Int) = 0 from rfl] at l1 l2
  by_cases h1 : d = 1
  ·rw [if_pos h1, if_pos h1, l1]; simp [h]
  ·rw [if_neg h1, if_neg h1, l2]; simp [h]
 ·rw [if_pos (by simp [h])]; simp [h]
theorem rRight_eq (k : Nat) (e d s r : Int) (x : List Int) (p : List api_Pin) (hk : 0 < k) (hp : p.length < k) : ref23_Right k e d s r x p = some (rightB e d s r x p) := by
 unfold ref23_Right rightB
 rw [rValid_eq, bnd1_some]
 cases okC e d s r
 ·rfl
 rw [if_neg (by simp), Check_r k _ _ _ _ _ _ _ _ _ _ _ _ _ (by simp) (by simpa using hk) hp, bnd1_some]
 have e1 : chkS 0 0 (ByteArray.mk #[]) 0 10 0 0 0 [] p (ByteArray.mk #[]) = pinC p := rfl
 rw [e1]
 by_cases h : pinC p = 0
 ·rw [if_neg (by simp [h])]
  unfold cntB allB
  by_cases h1 : d = 1
  ·rw [if_pos h1, if_pos h1]
   rcases x with _ | ⟨a, _ | ⟨b, _ | ⟨c, t⟩⟩⟩
   ·rw [if_neg (by simp)]; simp [h]
   ·rw [if_neg (by simp)]; simp [h]
   ·rw [if_pos (by simp)]
    have i0 : ∀ f : Int → Option Bool, idx [a, b] (0 : Int) f = f a := fun f => idx_pos (l := [a, b]) (i := 0) (by simp)
    have i1 : ∀ f : Int → Option Bool, idx [a, b] (1 : Int) f = f b := fun f => idx_pos (l := [a, b]) (i := 1) (by simp)
    rw [i0, i1]
    have b1 : (decide (b < 4294967296)) = decide (b ≤ 4294967295) := decide_eq_decide.2 (by omega)
    simp only [List.all_cons, List.all_nil, bIn, h, decide_true, Bool.true_and, Bool.and_true]
    by_cases a1 : 0 ≤ a
    ·by_cases a2 : a < 4294967296
     ·by_cases a3 : 0 ≤ b
      ·rw [if_pos a1, if_pos a2, if_pos a3, b1]
       simp [a1, a3, show a ≤ 4294967295 by omega]
      ·rw [if_pos a1, if_pos a2, if_neg a3]; simp [a3]
     ·rw [if_pos a1, if_neg a2]; simp [show ¬ a ≤ 4294967295 by omega]
    ·rw [if_neg a1]; simp [a1]
   ·rw [if_neg (by simp; omega)]
    have : ¬ (((a :: b :: c :: t).length : Int) == 2) = true := by simp; omega
    simp only [Bool.not_eq_true] at this
    rw [this]; simp
  ·rw [if_neg h1, if_neg h1]
   rcases x with _ | ⟨a, _ | ⟨c, t⟩⟩
   ·rw [if_neg (by simp)]; simp [h]
   ·rw [if_pos (by simp)]
    have i0 : ∀ f : Int → Option Bool, idx [a] (0 : Int) f = f a := fun f => idx_pos (l := [a]) (i := 0) (by simp)
    rw [i0]
    simp only [List.all_cons, List.all_nil, bIn, h, decide_true, Bool.true_and, Bool.and_true]
    by_cases a1 : a = 0
    ·subst a1; rfl
    rw [if_neg a1]
    by_cases a2 : a = 1
    ·subst a2; rfl
    ·have : ¬ (0 ≤ a ∧ a ≤ 1) := by omega
     have h3 : (decide (0 ≤ a) && decide (a ≤ 1)) = false := by
      by_cases q : 0 ≤ a
      ·have : ¬ a ≤ 1 := by omega
       simp [q, this]
      ·simp [q]
     rw [h3]; simp [a2]
   ·rw [if_neg (by simp; omega)]
    have : ¬ (((a :: c :: t).length : Int) == 1) = true := by simp; omega
    simp only [Bool.not_eq_true] at this
    rw [this]; simp
 ·rw [if_pos h]; simp [h]
theorem right_all {e d s r : Int} {x : List Int} {p : List api_Pin} (h : rightB e d s r x p = true) : okC e d s r = true ∧ pinC p = 0 ∧ x.length ≤ 2 ∧ p.length ≤ 64 ∧ ∀ a ∈ x, 0 ≤ a ∧ a ≤ 4294967295 := by
 unfold rightB at h
 simp only [Bool.and_eq_true, decide_eq_true_eq] at h
 refine ⟨h.1, h.2.1, ?_, pinC_len h.2.1, ?_⟩
 ·have := h.2.2
  unfold cntB at this
  split at this <;> simp only [Bool.and_eq_true, beq_iff_eq] at this <;> omega
 ·have := h.2.2
  unfold cntB allB at this
  intro a ha
  split at this <;> simp only [Bool.and_eq_true, List.all_eq_true, bIn, decide_eq_true_eq] at this <;> have := this.1 a ha <;> omega
def draftC (e d s r : Int) (x : List Int) (p : List api_Pin) : Int × Int × Int × Int × List Int × List api_Pin × Int :=
 if okC e d s r = true then (if rightB e d s r x p = true then (10, e, d + 16 * r, s, x, p, 0) else (0, 0, 0, 0, [], [], 42)) else (0, 0, 0, 0, [], [], 41)
theorem cDraft_eq (k : Nat) (e d s r : Int) (x : List Int) (p : List api_Pin) (h9 : x.length ≤ 9223372036854775807) (hx : x.length < k) (hp : p.length < k) : cases_Draft k e d s r x p = some (draftC e d s r x p) := by
 unfold cases_Draft draftC
 rw [cValid_eq, bnd1_some]
 by_cases h : okC e d s r = true
 ·rw [if_neg (by simp [h]), if_pos h, cRight_eq k e d s r x p h9 hx hp, bnd1_some]
  by_cases h2 : rightB e d s r x p = true
  ·have := right_all h2
   unfold cases_Copy
   rw [if_neg (by simp [h2]), if_pos h2, chk_pos (by omega), chk_pos (by omega), bnd2_some, cCode_eq, bnd1_some]
   unfold codeC; rw [if_pos h]
  ·rw [if_pos (by simpa using h2), if_neg h2]
 ·rw [if_pos (by simpa using h), if_neg h]
theorem rDraft_eq (k : Nat) (e d s r : Int) (x : List Int) (p : List api_Pin) (hk : 0 < k) (hp : p.length < k) : ref23_Draft k e d s r x p = some (draftC e d s r x p) := by
 unfold ref23_Draft draftC
 rw [rValid_eq, bnd1_some]
 by_cases h : okC e d s r = true
 ·rw [if_neg (by simp [h]), if_pos h, rRight_eq k e d s r x p hk hp, bnd1_some]
  by_cases h2 : rightB e d s r x p = true
  ·have := right_all h2
   rw [if_neg (by simp [h2]), if_pos h2, rCode_eq, bnd1_some, chk_pos (by omega), chk_pos (by omega)]
   unfold codeC; rw [if_pos h]
  ·rw [if_pos (by simpa using h2), if_neg h2]
 ·rw [if_pos (by simpa using h), if_neg h]
def ofC (author num : Int) (prev : ByteArray) (time kind A B C : Int) (l : List Int) (pins : List api_Pin) (body : ByteArray) : Int × Int × Int × Int × Int × List Int × List api_Pin × Int :=
 if chkS author num prev time kind A B C l pins body = 0 then
  (if (decide (kind = 10) && (strEq body (ByteArray.mk #[]) && rightB A (Int.tmod B 16) C (IntKind.wrap .i64 (Int.tdiv B 16)) l pins)) = true then (author, A, Int.tmod B 16, C, IntKind.wrap .i64 (Int.tdiv B 16), l, pins, 0) else (0, 0, 0, 0, 0, [], [], 42))
 else (0, 0, 0, 0, 0, [], [], chkS author num prev time kind A B C l pins body)
theorem cOf_eq (k : Nat) (author num : Int) (prev : ByteArray) (time kind A B C : Int) (l : List Int) (pins : List api_Pin) (body : ByteArray) (sk : Int) (sd : ByteArray) (h9 : l.length ≤ 9223372036854775807) (hl : l.length < k) (hp : pins.length < k) :
 cases_Of k author num prev time kind A B C l pins body sk sd = some (ofC author num prev time kind A B C l pins body) := by
 unfold cases_Of ofC
 rw [Check_p k _ _ _ _ _ _ _ _ _ _ _ _ _ h9 hl hp, bnd1_some]
 by_cases h : chkS author num prev time kind A B C l pins body = 0
 ·have hs := chk0_size h
  have h1 := hs.l; have h2 := hs.q
  unfold cases_Copy
  rw [if_neg (by simp [h]), if_pos h, chk_pos (by omega), chk_pos (by omega), bnd2_some]
  by_cases c : kind = 10
  ·rw [if_neg (by simp [c])]
   cases hb : strEq body (ByteArray.mk #[])
   ·simp
   ·rw [if_neg (by simp), cRight_eq k _ _ _ _ l pins h9 hl hp, bnd1_some]
    cases rightB A (Int.tmod B 16) C (IntKind.wrap .i64 (Int.tdiv B 16)) l pins <;> simp [c]
  ·rw [if_pos c]; simp [c]
 ·rw [if_pos h, if_neg h]
def GoodC (d s r : Int) : Prop := (d = 1 ∧ s = 0 ∧ r = 0) ∨ ((d = 2 ∨ d = 3) ∧ 0 ≤ s ∧ s < 7 ∧ 0 ≤ r ∧ r < 2)
theorem good_ok {e d s r : Int} (h : GoodC d s r) (h0 : 0 ≤ e) (h1 : e < 40) : okC e d s r = true := by
 unfold GoodC at h
 unfold okC
 rw [if_pos (by omega)]
 split
 ·simp only [decide_eq_true_eq]; omega
 ·simp only [decide_eq_true_eq]; omega
theorem Case_eq (k : Nat) (l : List Int) (p e : Int) (hl : l.length ≤ 1000) (hp : Pos p) : ∃ d s r q, mill_Case k l p e = some (e, d, s, r, q) ∧ Pos q ∧ GoodC d s r := by
 unfold mill_Case mill_Case.J1
 obtain ⟨a, p1, e1, q1, m1⟩ := Next_eq k l p 3 hl hp
 have m1 := m1 (by omega) (by omega)
 have w : IntKind.wrap .i64 (1 + a) = 1 + a := w64 (by omega) (by omega)
 rw [e1, bnd2_some]
 simp only [w]
 by_cases h : 1 + a ≠ 1
 ·obtain ⟨b, p2, e2, q2, m2⟩ := Next_eq k l p1 7 hl q1
  obtain ⟨c, p3, e3, q3, m3⟩ := Next_eq k l p2 2 hl q2
  have m2 := m2 (by omega) (by omega)
  have m3 := m3 (by omega) (by omega)
  rw [if_pos h, e2, bnd2_some, e3, bnd2_some]
  exact ⟨_, _, _, _, rfl, q3, .inr ⟨by omega, m2.1, m2.2, m3.1, m3.2⟩⟩
 ·rw [if_neg h]
  exact ⟨_, _, _, _, rfl, q1, .inl ⟨by omega, rfl, rfl⟩⟩
def GoodX (d : Int) (x : List Int) (p : List api_Pin) : Prop :=
 (d ≠ 1 ∧ ∃ a, x = [a] ∧ 0 ≤ a ∧ a < 2 ∧ p = []) ∨ (d = 1 ∧ ∃ a b, x = [a, b] ∧ 1 ≤ a ∧ a ≤ 127 ∧ 0 ≤ b ∧ b ≤ 1 ∧ (p = [] ∨ ∃ A H D, p = [⟨A, H, D⟩] ∧ 0 ≤ A ∧ A < 4 ∧ 1 ≤ H ∧ H ≤ 3 ∧ D.size = 32))
theorem DDigest_eq (k : Nat) (l : List Int) (p : Int) (hl : l.length ≤ 1000) (hp : Pos p) : ∃ d q, made_Dice_Digest k l p = some (d, q) ∧ Pos q ∧ d.size = 32 := by
 unfold made_Dice_Digest
 obtain ⟨a, p1, e1, q1, m1⟩ := Next_eq k l p 4 hl hp
 obtain ⟨b, p2, e2, q2, m2⟩ := Next_eq k l p1 256 hl q1
 rw [chk_pos (by omega), let1_eq, e1, bnd2_some, e2, bnd2_some, chk_pos (by simp), chk_pos (by simp)]
 exact ⟨_, _, rfl, q2, by simp [ofI, ByteArray.size]⟩
theorem Content_eq (k : Nat) (l : List Int) (p e d s r : Int) (hl : l.length ≤ 1000) (hp : Pos p) : ∃ x y q, mill_Content k l p e d s r = some (x, y, q) ∧ Pos q ∧ GoodX d x y := by
 unfold mill_Content mill_Content.J1
 by_cases h : d ≠ 1
 ·obtain ⟨a, p1, e1, q1, m1⟩ := Next_eq k l p 2 hl hp
  have m1 := m1 (by omega) (by omega)
  rw [if_pos h, e1, bnd2_some]
  exact ⟨_, _, _, rfl, q1, .inl ⟨h, a, rfl, m1.1, m1.2, rfl⟩⟩
 ·obtain ⟨a, p1, e1, q1, m1⟩ := Next_eq k l p 127 hl hp
  have m1 := m1 (by omega) (by omega)
  obtain ⟨b, p2, e2, q2, m2⟩ := Of_eq k l p1 [0, 0, 1] hl q1 (by simp) (by simp)
  obtain ⟨c, p3, e3, q3⟩ := One_eq k l p2 4 hl q2 (by omega) (by omega)
  have m2' : 0 ≤ b ∧ b ≤ 1 := by simp at m2; omega
  have w : IntKind.wrap .i64 (1 + a) = 1 + a := w64 (by omega) (by omega)
  rw [if_neg h, e1, bnd2_some, e2, bnd2_some, e3, bnd2_some]
  cases c
  ·rw [if_neg (by simp), w]
   exact ⟨_, _, _, rfl, q3, .inr ⟨by omega, _, _, rfl, by omega, by omega, m2'.1, m2'.2, .inl rfl⟩⟩
  ·obtain ⟨u, p4, e4, q4, m4⟩ := Next_eq k l p3 4 hl q3
   obtain ⟨v, p5, e5, q5, m5⟩ := Next_eq k l p4 3 hl q4
   have m4 := m4 (by omega) (by omega)
   have m5 := m5 (by omega) (by omega)
   obtain ⟨g, p6, e6, q6, m6⟩ := DDigest_eq k l p5 hl q5
   have w2 : IntKind.wrap .i64 (1 + v) = 1 + v := w64 (by omega) (by omega)
   rw [if_pos rfl, e4, bnd2_some, e5, bnd2_some, e6, bnd2_some, w, w2]
   exact ⟨_, _, _, rfl, q6, .inr ⟨by omega, _, _, rfl, by omega, by omega, m2'.1, m2'.2, .inr ⟨_, _, _, rfl, by omega, by omega, by omega, by omega, m6⟩⟩⟩
theorem GoodX.len {d : Int} {x : List Int} {p : List api_Pin} (h : GoodX d x p) : x.length ≤ 2 ∧ 1 ≤ x.length ∧ p.length ≤ 1 ∧ ∀ q ∈ p, q.Digest.size = 32 := by
 rcases h with ⟨_, a, rfl, _, _, rfl⟩ | ⟨_, a, b, rfl, _, _, _, _, rfl | ⟨A, H, D, rfl, _, _, _, _, h⟩⟩ <;> simp [*]
theorem pin1 (A H : Int) (D : ByteArray) (h1 : 0 ≤ A ∧ A < 4) (h2 : 1 ≤ H ∧ H ≤ 3) (h3 : D.size = 32) : pinC [⟨A, H, D⟩] = 0 := by
 have : pinsB none [⟨A, H, D⟩] = true := by
  have e1 : bIn A 0 63 = true := by simp only [bIn, Bool.and_eq_true, decide_eq_true_eq]; omega
  have e2 : bIn H 1 200 = true := by simp only [bIn, Bool.and_eq_true, decide_eq_true_eq]; omega
  rw [pinsB_cons]; unfold pinB
  simp only [e1, e2, h3, relP]
  rfl
 unfold pinC chkS formB
 rw [if_pos (by decide), if_pos (by decide), if_pos (by decide), if_pos (by decide), if_pos ⟨by simp, by simp, by decide⟩, this]
 rfl
theorem good_right {e d s r : Int} {x : List Int} {p : List api_Pin} (hc : GoodC d s r) (h0 : 0 ≤ e) (h1 : e < 40) (h : GoodX d x p) : rightB e d s r x p = true := by
 unfold rightB
 rw [good_ok hc h0 h1]
 rcases h with ⟨hd, a, rfl, a1, a2, rfl⟩ | ⟨hd, a, b, rfl, a1, a2, b1, b2, rfl | ⟨A, H, D, rfl, h3, h4, h5, h6, h7⟩⟩
 ·have : pinC [] = 0 := by decide
  rw [this]; unfold cntB; rw [if_neg hd]
  simp [allB, bIn]; omega
 ·have : pinC [] = 0 := by decide
  rw [this]; unfold cntB; rw [if_pos hd]
  simp [allB, bIn]; omega
 ·rw [pin1 A H D ⟨h3, h4⟩ ⟨h5, h6⟩ h7]; unfold cntB; rw [if_pos hd]
  simp [allB, bIn]; omega
def prvB (num : Int) : ByteArray := if 0 < num then ofI (List.replicate 32 0) else ByteArray.mk #[]
theorem prvB_size (num : Int) (h : 0 < num) : (prvB num).size = 32 := by unfold prvB; rw [if_pos h]; simp [ofI, ByteArray.size]
theorem prvB_le (num : Int) : (prvB num).size ≤ 32 := by
 unfold prvB
 split
 ·simp [ofI, ByteArray.size]
 ·decide
def stS (author num time kind A B C : Int) (l : List Int) (p : List api_Pin) : api_Statement :=
 ⟨author, num, prvB num, time, kind, A, B, C, l, p, ByteArray.mk #[], author, digS author num (prvB num) time kind A B C l p (ByteArray.mk #[])⟩
theorem mStat_eq (k : Nat) (hk : 10000 < k) (author num time kind A B C : Int) (l : List Int) (p : List api_Pin) (hl : l.length ≤ 100) (hp : p.length ≤ 64) (hd : ∀ x ∈ p, x.Digest.size = 32) :
 mill_Statement k author num time kind A B C l p = some (stS author num time kind A B C l p) := by
 have hc : mill_Statement.J1 k author num time kind A B C l p (prvB num) = some (stS author num time kind A B C l p) := by
  unfold mill_Statement.J1 ref03_Seal ref03_Copy
  rw [chk_pos (by omega), chk_pos (by omega), bnd1_some, Digest_r k hk _ _ _ _ _ _ _ _ _ _ _ _ _ ⟨prvB_le num, hl, hp, hd, Nat.zero_le _⟩, bnd1_some, bnd1_some]
  rfl
 unfold mill_Statement
 rw [chk_pos (by omega), chk_pos (by omega)]
 unfold prvB at hc
 by_cases a : 0 < num
 ·rw [if_pos a] at hc
  rw [if_pos a, chk_pos (by omega)]
  exact hc
 ·rw [if_neg a] at hc
  rw [if_neg a]
  exact hc
theorem pinC_parts {p : List api_Pin} (h : pinC p = 0) : pinsB none p = true ∧ p.length ≤ 64 ∧ ∀ x ∈ p, x.Digest.size = 32 := by
 have hs := chk0_size h
 refine ⟨?_, hs.q, hs.d⟩
 unfold pinC chkS at h
 split at h; rotate_left; · omega
 split at h; rotate_left; · omega
 split at h; rotate_left; · omega
 split at h; rotate_left; · omega
 split at h; rotate_left; · omega
 split at h; rotate_left; · omega
 rename_i hf
 simp only [formB, Bool.and_eq_true] at hf
 exact hf.1.2
theorem chk_vote {e d s r author num time : Int} {x : List Int} {p : List api_Pin} (h : rightB e d s r x p = true) (ha : 0 ≤ author ∧ author ≤ 63) (hn : 0 ≤ num ∧ num ≤ 199) (ht : 0 ≤ time ∧ time ≤ 2147483648) :
 chkS author num (prvB num) time 10 e (d + 16 * r) s x p (ByteArray.mk #[]) = 0 := by
 obtain ⟨h1, h2, h3, h4, h5⟩ := right_all h
 have h6 := okC_iff h1
 obtain ⟨h7, h8, h9⟩ := pinC_parts h2
 have hx : allV x = true := List.all_eq_true.2 fun a ha => by
  have := h5 a ha
  simp only [bIn, Bool.and_eq_true, decide_eq_true_eq]; omega
 unfold chkS
 rw [if_pos (by simp only [bIn, Bool.and_eq_true, decide_eq_true_eq]; omega), if_pos (by decide), if_pos (by simp only [bIn, Bool.and_eq_true, decide_eq_true_eq]; omega), if_pos, if_pos ⟨by omega, by omega, Nat.zero_le _⟩, if_pos]
 ·unfold formB
  rw [h7]
  have : (if num = 0 then strEq (prvB num) (ByteArray.mk #[]) else if 0 < num then decide ((prvB num).size = 32) else true) = true := by
   by_cases a : num = 0
   ·subst a; rfl
   ·rw [if_neg a, if_pos (by omega), prvB_size num (by omega)]; rfl
  rw [this]
  rfl
 ·unfold numsB
  rw [hx]
  have hm : meantB author time 10 e (d + 16 * r) s = true := by rfl
  rw [hm]
  have e1 : bIn num 0 199 = true := by simp only [bIn, Bool.and_eq_true, decide_eq_true_eq]; omega
  have e2 : bIn e 0 1099511627776 = true := by simp only [bIn, Bool.and_eq_true, decide_eq_true_eq]; omega
  have e3 : bIn (d + 16 * r) 0 1099511627776 = true := by simp only [bIn, Bool.and_eq_true, decide_eq_true_eq]; omega
  have e4 : bIn s 0 1099511627776 = true := by simp only [bIn, Bool.and_eq_true, decide_eq_true_eq]; omega
  rw [e1, e2, e3, e4]
  rfl
theorem of_vote {e d s r author num time : Int} {x : List Int} {p : List api_Pin} (h : rightB e d s r x p = true) (ha : 0 ≤ author ∧ author ≤ 63) (hn : 0 ≤ num ∧ num ≤ 199) (ht : 0 ≤ time ∧ time ≤ 2147483648) :
 ofC author num (prvB num) time 10 e (d + 16 * r) s x p (ByteArray.mk #[]) = (author, e, d, s, r, x, p, 0) := by
 have h6 := okC_iff (right_all h).1
 unfold ofC
 have e1 : Int.tmod (d + 16 * r) 16 = d := by rw [Int.tmod_eq_emod_of_nonneg (by omega)]; omega
 have e2 : IntKind.wrap .i64 (Int.tdiv (d + 16 * r) 16) = r := by rw [Int.tdiv_eq_ediv_of_nonneg (by omega), w64 (by omega) (by omega)]; omega
 rw [if_pos (chk_vote h ha hn ht), e1, e2, h, strEq_self]
 rfl
theorem mVote_eq (k : Nat) (hk : 10000 < k) {e d s r author num : Int} {x : List Int} {p : List api_Pin} (h : rightB e d s r x p = true) : mill_Vote k author num e d s r x p = some (stS author num 1 10 e (d + 16 * r) s x p) := by
 obtain ⟨h1, h2, h3, h4, h5⟩ := right_all h
 obtain ⟨h7, h8, h9⟩ := pinC_parts h2
 have b7 : ∀ (a b c d : Int) (e : List Int) (g : List api_Pin) (i : Int) (f : Int → Int → Int → Int → List Int → List api_Pin → Int → Option api_Statement), bnd7 (some (a, b, c, d, e, g, i)) f = f a b c d e g i := fun _ _ _ _ _ _ _ _ => rfl
 unfold mill_Vote
 rw [rDraft_eq k e d s r x p (by omega) (by omega)]
 unfold draftC
 rw [if_pos h1, if_pos h, b7, mStat_eq k hk _ _ _ _ _ _ _ _ _ (by omega) h8 h9, bnd1_some]
theorem cb7 {β : Type} (a b c d : Int) (e : List Int) (g : List api_Pin) (i : Int) (f : Int → Int → Int → Int → List Int → List api_Pin → Int → Option β) : bnd7 (some (a, b, c, d, e, g, i)) f = f a b c d e g i := rfl
theorem cb8 {β : Type} (a b c d e : Int) (g : List Int) (i : List api_Pin) (j : Int) (f : Int → Int → Int → Int → Int → List Int → List api_Pin → Int → Option β) : bnd8 (some (a, b, c, d, e, g, i, j)) f = f a b c d e g i j := rfl
theorem cb5 {β : Type} (a b c d e : Int) (f : Int → Int → Int → Int → Int → Option β) : bnd5 (some (a, b, c, d, e)) f = f a b c d e := rfl
theorem awake23 (k : Nat) (hk : 10000 < k) : law23_awake k = some true := by
 have hr : rightB 2 3 5 1 [1] [] = true := by decide
 unfold law23_awake
 rw [cDraft_eq k _ _ _ _ _ _ (by simp) (by simp; omega) (by simp; omega)]
 unfold draftC
 rw [if_pos (by decide), if_pos hr, cb7, mStat_eq k hk _ _ _ _ _ _ _ _ _ (by simp) (by simp) (by simp), bnd1_some]
 unfold stS
 simp only
 rw [cOf_eq k _ _ _ _ _ _ _ _ _ _ _ _ _ (by simp) (by simp; omega) (by simp; omega), show (3 + 16 * 1 : Int) = 3 + 16 * 1 from rfl, of_vote hr (by omega) (by omega) (by omega), cb8, if_pos rfl, if_pos rfl, cCode_eq, bnd1_some, if_pos (show codeC 2 3 5 1 = 19 by decide), if_pos trivial, let1_eq, if_pos (by decide), if_pos (by simp), cValid_eq, bnd1_some]
 decide
end Go.TF
