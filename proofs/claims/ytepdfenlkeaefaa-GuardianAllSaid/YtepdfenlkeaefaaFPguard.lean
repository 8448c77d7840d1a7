/- Plain laws of layer 34: guardians. -/
import Derived.Test.YtepdfenlkeaefaaFPfewer
set_option linter.unusedVariables false
set_option linter.unusedSimpArgs false
namespace Go.TF
open Go Go.Abs
theorem awake34 : law34_awake 1000 = some true := by decide +kernel
def keyB (x : Int) : Bool := decide (0 ≤ x) && decide (x < 64)
theorem gkey_eq (k : Nat) (x : Int) : guardian_key k x = some (keyB x) := by
 unfold guardian_key keyB
 by_cases h : 0 ≤ x <;> simp [h]
def endG (o n : Int) (l : List Int) : Bool := keyB o && decide (1 ≤ (l.length : Int)) && decide ((l.length : Int) ≤ 12) && decide (1 ≤ n) && decide (n ≤ (l.length : Int))
theorem gvalid_loop (k : Nat) (o need : Int) (l : List Int) (h9 : l.length ≤ 9223372036854775807) : ∀ (m i n : Nat), i + m = l.length → m < n → guardian_Valid.L1 k o need l n (i : Int) = some (asc (prevOf l i) (l.drop i) && !decide (o ∈ l.drop i) && endG o need l)
 | 0, i, n + 1, h, _ => by
  rw [guardian_Valid.L1, if_neg (by omega), List.drop_of_length_le (by omega), gkey_eq, bnd1_some]
  unfold endG
  simp only [asc, List.not_mem_nil, decide_false, Bool.not_false, Bool.and_self, Bool.true_and]
  by_cases a : keyB o = true
  ·rw [if_pos a, a]
   by_cases b : 1 ≤ (l.length : Int)
   ·rw [if_pos b]
    by_cases c : (l.length : Int) ≤ 12
    ·rw [if_pos c]
     by_cases d : 1 ≤ need
     ·rw [if_pos d]; simp [b, c, d]
     ·rw [if_neg d]; simp [d]
    ·rw [if_neg c]; simp [c]
   ·rw [if_neg b]; simp [b]
  ·rw [if_neg a]; simp only [Bool.not_eq_true] at a; simp [a]
 | m + 1, i, n + 1, h, hn => by
  have h1 : i < l.length := by omega
  have dm : (o ∈ l.drop i) ↔ (o = l[i] ∨ o ∈ l.drop (i + 1)) := by rw [List.drop_eq_getElem_cons h1, List.mem_cons]
  rw [guardian_Valid.L1, if_pos (by omega), idx_pos h1, gkey_eq, bnd1_some]
  simp only [dm]
  rw [List.drop_eq_getElem_cons h1]
  simp only [asc]
  have hn1 : prevOf l (i + 1) = l[i] := by simp [prevOf, List.getD_eq_getElem?_getD, h1]
  have rc := gvalid_loop k o need l h9 m (i + 1) n (by omega) (by omega)
  rw [hn1] at rc
  by_cases hk : ¬ keyB l[i] = true
  ·rw [if_pos (by simpa using hk)]
   have : (decide (0 ≤ l[i]) && decide (l[i] < 64)) = false := by simpa [keyB] using hk
   rw [this]; simp
  have hk : keyB l[i] = true := by simpa using hk
  rw [if_neg (by simp [hk])]
  have hkk : 0 ≤ l[i] ∧ l[i] < 64 := by simpa [keyB] using hk
  by_cases ho : l[i] = o
  ·rw [if_pos ho]; simp [ho]
  rw [if_neg ho]
  have ho' : ¬ o = l[i] := fun e => ho e.symm
  unfold guardian_Valid.J2
  dsimp only
  rw [succ64 _ (by omega), rc]
  by_cases h0 : 0 < i
  ·have h2 : i - 1 < l.length := by omega
   rw [if_pos (by omega), show IntKind.wrap .i64 ((i : Int) - 1) = ((i - 1 : Nat) : Int) by rw [w64 (by omega) (by omega)]; omega, idx_pos h2]
   have hp1 : prevOf l i = l[i - 1] := by
    unfold prevOf
    rw [if_neg (by omega), List.getD_eq_getElem?_getD, List.getElem?_eq_getElem h2]; rfl
   rw [hp1]
   by_cases hlt : l[i] ≤ l[i - 1]
   ·rw [if_pos hlt]
    have : ¬ l[i - 1] < l[i] := by omega
    simp [this]
   ·rw [if_neg hlt]
    have : l[i - 1] < l[i] := by omega
    simp [this, hkk, ho']
  ·obtain rfl : i = 0 := by omega
   rw [if_neg (by omega)]
   have : prevOf l 0 = -1 := rfl
   have : prevOf l 0 < l[0] := by omega
   simp [this, hkk, ho']
def okG (o n : Int) (l : List Int) : Bool := asc (-1) l && !decide (o ∈ l) && endG o n l
theorem gValid_eq (k : Nat) (o n : Int) (l : List Int) (hk : l.length < k) (h9 : l.length ≤ 9223372036854775807) : guardian_Valid k o n l = some (okG o n l) := gvalid_loop k o n l h9 l.length 0 k (by omega) hk
theorem refGValid_eq (k : Nat) (o n : Int) (l : List Int) (hk : l.length < k) (h9 : l.length ≤ 9223372036854775807) : ref34_Valid k o n l = some (okG o n l) := by
 unfold ref34_Valid okG endG keyB
 by_cases a : ¬ (0 ≤ o)
 ·rw [if_neg a]; simp [a]
 have a := Decidable.not_not.1 a
 rw [if_pos a]
 by_cases b : ¬ (o < 64)
 ·rw [if_neg b]; simp [b]
 have b := Decidable.not_not.1 b
 rw [if_pos b]
 by_cases c : ¬ ((l.length : Int) ≤ 12)
 ·rw [if_neg c]; simp [c]
 have c := Decidable.not_not.1 c
 rw [if_pos c, refValid_eq k l hk h9, bnd1_some]
 by_cases d : ¬ (okR l = true)
 ·rw [if_neg d]
  have : (asc (-1) l && decide (1 ≤ (l.length : Int))) = false := by
   cases l with
   | nil => simp
   | cons x l => simp [okR] at d; simp [d]
  cases h1 : asc (-1) l
  ·simp
  ·rw [h1, Bool.true_and, decide_eq_false_iff_not] at this
   simp only [this, decide_false, Bool.and_false, Bool.false_and]
 have d := Decidable.not_not.1 d
 rw [if_pos d, refHas_eq k l o hk h9, bnd1_some]
 have hp := okR_pos d
 have da : asc (-1) l = true := by simp [okR] at d; exact d.2
 have d1 : (1 : Int) ≤ l.length := by omega
 by_cases e : o ∈ l
 ·simp [e]
 ·by_cases f : 1 ≤ n <;> simp [a, b, c, da, d1, e, f]
def draftF (o n : Int) (l : List Int) : Int × Int × Int × Int × List Int × List api_Pin × Int :=
 if (!okG o n l) = true then (0, 0, 0, 0, [], [], 47) else (12, n, 0, 0, l, [], 0)
theorem okG_len {o n : Int} {l : List Int} (h : okG o n l = true) : l.length ≤ 12 := by
 simp [okG, endG] at h; omega
def voicesN (v : List Int) : List Int → Nat
 | [] => 0
 | x :: l => (if x ∈ v then 1 else 0) + voicesN v l
theorem voicesN_le (v : List Int) : ∀ l, voicesN v l ≤ l.length
 | [] => by simp [voicesN]
 | x :: l => by have := voicesN_le v l; simp [voicesN]; split <;> omega
theorem enough3 (k : Nat) (v3 : List Int) (v6 v7 x : Int) (kb : Int → Int → Option Bool) (h9 : v3.length ≤ 9223372036854775807) : ∀ (m i n : Nat), i + m = v3.length → m < n → guardian_Enough.L3 k v3 v6 v7 x kb n (i : Int) = kb (if x ∈ v3.drop i then IntKind.wrap .i64 (v6 + 1) else v6) (IntKind.wrap .i64 (v7 + 1))
 | 0, i, n + 1, h, _ => by
  rw [guardian_Enough.L3, if_neg (by omega), List.drop_of_length_le (by omega), if_neg (by simp)]; rfl
 | m + 1, i, n + 1, h, hn => by
  have h1 : i < v3.length := by omega
  have dm : (x ∈ v3.drop i) ↔ (x = v3[i] ∨ x ∈ v3.drop (i + 1)) := by rw [List.drop_eq_getElem_cons h1, List.mem_cons]
  rw [guardian_Enough.L3, if_pos (by omega), idx_pos h1]
  by_cases e : v3[i] = x
  ·rw [if_pos e, if_pos (dm.2 (.inl e.symm))]; rfl
  ·rw [if_neg e, succ64 _ (by omega), enough3 k v3 v6 v7 x kb h9 m (i + 1) n (by omega) (by omega)]
   have : (x ∈ v3.drop i) ↔ (x ∈ v3.drop (i + 1)) := by rw [dm]; exact ⟨fun h => h.resolve_left (fun h => e h.symm), .inr⟩
   simp only [this]
theorem enough1 (k : Nat) (need : Int) (l v3 : List Int) (h8 : l.length ≤ 100000) (h9 : v3.length ≤ 9223372036854775807) (hk : v3.length < k) : ∀ (m i n c : Nat), i + m = l.length → m < n → c ≤ i → guardian_Enough.L1 k need l v3 n (c : Int) (i : Int) = some (decide (need ≤ ((c + voicesN v3 (l.drop i) : Nat) : Int)))
 | 0, i, n + 1, c, h, _, _ => by
  rw [guardian_Enough.L1, if_neg (by omega), List.drop_of_length_le (by omega)]; simp only [voicesN, Nat.add_zero]; first | done | rfl | congr
 | m + 1, i, n + 1, c, h, hn, hc => by
  have h1 : i < l.length := by omega
  rw [guardian_Enough.L1, if_pos (by omega), idx_pos h1]
  have := enough3 k v3 (c : Int) (i : Int) l[i] (fun v6_ v7_ => guardian_Enough.L1 k need l v3 n v6_ v7_) h9 v3.length 0 k (by omega) hk
  rw [show (0 : Int) = ((0 : Nat) : Int) from rfl, this, succ64 _ (by omega), succ64 _ (by omega), List.drop_zero, List.drop_eq_getElem_cons h1, voicesN]
  by_cases e : l[i] ∈ v3
  ·rw [if_pos e, if_pos e, enough1 k need l v3 h8 h9 hk m (i + 1) n (c + 1) (by omega) (by omega) (by omega)]
   congr 3; omega
  ·rw [if_neg e, if_neg e, enough1 k need l v3 h8 h9 hk m (i + 1) n c (by omega) (by omega) (by omega)]
   congr 3; omega
theorem Enough_eq (k : Nat) (o n : Int) (l v : List Int) (h8 : l.length ≤ 100000) (h9 : v.length ≤ 100000) (hk : v.length < k) (hl : l.length < k) : guardian_Enough k o n l v = some (okG o n l && decide (n ≤ (voicesN v l : Int))) := by
 unfold guardian_Enough
 rw [gValid_eq k o n l hl (by omega), bnd1_some]
 by_cases h : okG o n l = true
 ·rw [if_neg (by simp [h])]
  have := enough1 k n l v h8 (by omega) hk l.length 0 k 0 (by omega) hl (by omega)
  simpa [h] using this
 ·rw [if_pos (by simpa using h)]
  simp only [Bool.not_eq_true] at h
  simp [h]
theorem Keys_o (k : Nat) (l : List Int) (p n : Int) : mill_Keys_o k l p n = mill_Keys k l p n := rfl
theorem guard_eq (k : Nat) (hk : 1000 ≤ k) (l : List Int) (p : Int) (hl : l.length ≤ 1000) (hp : Pos p) : ∃ o n g q, law34_guard k l p = some (o, n, g, q) ∧ g.length ≤ 100 ∧ Pos q := by
 unfold law34_guard law34_guard.J1
 obtain ⟨a, q1, e1, h1, _⟩ := Next_eq k l p 6 hl hp
 obtain ⟨L, q2, e2, h2, _, _, hL⟩ := Keys_eq k l q1 hl h1 7 (by omega) (by omega) (by omega)
 rw [e1, bnd2_some, Keys_o, e2, bnd2_some, refMinus_eq _ _ _ (by omega) (by omega) (by simp; try omega) (by omega) (by simp), bnd1_some]
 have hM := setM_len L [a]
 generalize setM L [a] = M at hM
 simp only [let1_eq]
 generalize (if 1 < (M.length : Int) then (M.length : Int) else 1) = w
 obtain ⟨b, q3, e3, h3, _⟩ := Next_eq k l q2 w hl h2
 obtain ⟨c, q4, e4, h4, _⟩ := Next_eq k l q3 12 hl h3
 rw [e3, bnd2_some, e4, bnd2_some]
 obtain ⟨d, q5, e5, h5, hd⟩ := Next_eq k l q4 3 hl h4
 have hd := hd (by omega) (by omega)
 obtain ⟨f, q6, e6, h6, hf⟩ := Next_eq k l q4 2 hl h4
 have hf := hf (by omega) (by omega)
 have of3 : ∀ t : List Int, t.length = 3 → ∃ y, made_Dice_Of k l q4 t = some (y, q5) := by
  intro t ht
  unfold made_Dice_Of
  obtain ⟨j, rfl⟩ := Int.eq_ofNat_of_zero_le hd.1
  rw [ht, show ((3 : Nat) : Int) = 3 from rfl, e5, bnd2_some, idx_pos (by omega)]
  exact ⟨_, rfl⟩
 split
 ·obtain ⟨y, e⟩ := of3 [0, 9, -1] rfl
  rw [e, bnd2_some]; exact ⟨_, _, _, _, rfl, by omega, h5⟩
 split
 ·rw [chk_pos (by simp only [List.length_cons, List.length_nil]; omega)]; exact ⟨_, _, _, _, rfl, by simp; omega, h4⟩
 split
 ·obtain ⟨y, e⟩ := of3 [-1, 64, 63] rfl
  rw [e, bnd2_some]; exact ⟨_, _, _, _, rfl, by omega, h5⟩
 split
 ·exact ⟨_, _, _, _, rfl, by simp, h4⟩
 split
 ·rw [e6, bnd2_some, w64 (n := 12 + f) (by omega) (by omega), chk_pos (by simp; omega)]; exact ⟨_, _, _, _, rfl, by simp; omega, h6⟩
 ·exact ⟨_, _, _, _, rfl, by omega, h4⟩
end Go.TF
