/- Plain laws of layer 24: lists of keys as sets. -/
import Derived.Test.YtepdfenlkeaefaaIPl
set_option linter.unusedVariables false
set_option linter.unusedSimpArgs false
namespace Go.TF
open Go Go.Abs
theorem succ64 (i : Nat) (h : i < 9223372036854775807) : IntKind.wrap .i64 ((i : Int) + 1) = ((i + 1 : Nat) : Int) := by rw [w64 (by omega) (by omega)]; omega
def selF (p : Int → Bool) : Nat → Nat → List Int
 | 0, _ => []
 | m + 1, i => if p i = true then (i : Int) :: selF p m (i + 1) else selF p m (i + 1)
def sel (p : Int → Bool) : List Int := selF p 64 0
theorem selF_congr {p q : Int → Bool} : ∀ (m i : Nat), (∀ j : Nat, i ≤ j → j < i + m → p j = q j) → selF p m i = selF q m i
 | 0, _, _ => rfl
 | m + 1, i, h => by rw [selF, selF, h i (by omega) (by omega), selF_congr m (i + 1) (fun j h1 h2 => h j (by omega) (by omega))]
theorem sel_congr {p q : Int → Bool} (h : ∀ j : Nat, j < 64 → p j = q j) : sel p = sel q := selF_congr 64 0 fun j _ h2 => h j (by omega)
theorem mem_selF {p : Int → Bool} {x : Int} : ∀ (m i : Nat), x ∈ selF p m i ↔ (i : Int) ≤ x ∧ x < i + m ∧ p x = true
 | 0, i => by simp [selF]; omega
 | m + 1, i => by
  rw [selF]
  have ih := mem_selF (p := p) (x := x) m (i + 1)
  split
  ·rename_i h
   rw [List.mem_cons, ih]
   constructor
   ·rintro (rfl | h1)
    ·exact ⟨by omega, by omega, h⟩
    ·exact ⟨by omega, by omega, h1.2.2⟩
   ·rintro ⟨h1, h2, h3⟩
    by_cases e : x = i
    ·exact .inl e
    ·exact .inr ⟨by omega, by omega, h3⟩
  ·rename_i h
   rw [ih]
   constructor
   ·rintro ⟨h1, h2, h3⟩; exact ⟨by omega, by omega, h3⟩
   ·rintro ⟨h1, h2, h3⟩
    have : x ≠ i := by rintro rfl; exact h h3
    exact ⟨by omega, by omega, h3⟩
theorem mem_sel {p : Int → Bool} {x : Int} : x ∈ sel p ↔ 0 ≤ x ∧ x < 64 ∧ p x = true := by
 rw [sel, mem_selF]; simp
theorem selF_len {p : Int → Bool} : ∀ (m i : Nat), (selF p m i).length ≤ m
 | 0, _ => by simp [selF]
 | m + 1, i => by
  have := selF_len (p := p) m (i + 1)
  rw [selF]; split <;> simp <;> omega
theorem sel_len (p : Int → Bool) : (sel p).length ≤ 64 := selF_len 64 0
def asc (p : Int) : List Int → Bool
 | [] => true
 | x :: l => decide (0 ≤ x) && decide (x < 64) && decide (p < x) && asc x l
theorem asc_selF {p : Int → Bool} : ∀ (m i : Nat) (q : Int), q < i → i + m ≤ 64 → asc q (selF p m i) = true
 | 0, _, _, _, _ => rfl
 | m + 1, i, q, h, h1 => by
  rw [selF]
  split
  ·simp only [asc, Bool.and_eq_true, decide_eq_true_eq]
   exact ⟨⟨⟨by omega, by omega⟩, h⟩, asc_selF m (i + 1) i (by omega) (by omega)⟩
  ·exact asc_selF m (i + 1) q (by omega) (by omega)
theorem asc_len : ∀ {l : List Int} {p : Int}, asc p l = true → -1 ≤ p → p ≤ 63 → (l.length : Int) ≤ 63 - p
 | [], p, _, h1, h2 => by simp; omega
 | x :: l, p, h, h1, h2 => by
  simp [asc] at h
  have := asc_len (l := l) (p := x) h.2 (by omega) (by omega)
  simp; omega
theorem asc_range : ∀ {l : List Int} {p : Int}, asc p l = true → ∀ x ∈ l, 0 ≤ x ∧ x < 64
 | [], p, _, x, hx => by simp at hx
 | y :: l, p, h, x, hx => by
  simp [asc] at h
  rcases List.mem_cons.1 hx with rfl | hx
  ·omega
  ·exact asc_range h.2 x hx
def okR (l : List Int) : Bool := !l.isEmpty && asc (-1) l
theorem okR_sel (p : Int → Bool) (h : sel p ≠ []) : okR (sel p) = true := by
 unfold okR
 rw [show asc (-1) (sel p) = true from asc_selF 64 0 (-1) (by omega) (by omega)]
 simp [h]
theorem refHas_loop (k : Nat) (l : List Int) (x : Int) (h9 : l.length ≤ 9223372036854775807) : ∀ (m i n : Nat), i + m = l.length → m < n → ref24_Has.L1 k l x n (i : Int) = some (decide (x ∈ l.drop i))
 | 0, i, n + 1, h, _ => by rw [ref24_Has.L1, if_neg (by omega), List.drop_of_length_le (by omega)]; simp
 | m + 1, i, n + 1, h, hn => by
  have h1 : i < l.length := by omega
  have d : (x ∈ l.drop i) ↔ (x = l[i] ∨ x ∈ l.drop (i + 1)) := by rw [List.drop_eq_getElem_cons h1, List.mem_cons]
  rw [ref24_Has.L1, if_pos (by omega), idx_pos h1]
  by_cases e : l[i] = x
  ·rw [if_pos e]; simp only [d, e, true_or, decide_true]
  ·rw [if_neg e, succ64 _ (by omega), refHas_loop k l x h9 m (i + 1) n (by omega) (by omega)]
   have : ¬ x = l[i] := fun h => e h.symm
   simp only [d, this, false_or]
theorem refHas_eq (k : Nat) (l : List Int) (x : Int) (hk : l.length < k) (h9 : l.length ≤ 9223372036854775807) : ref24_Has k l x = some (decide (x ∈ l)) := refHas_loop k l x h9 l.length 0 k (by omega) hk
theorem index_loop (k : Nat) (l : List Int) (x : Int) (h9 : l.length ≤ 9223372036854775807) : ∀ (m i n : Nat), i + m = l.length → m < n → ∃ r, slices_Index_int_int.L1 k l x n (i : Int) = some r ∧ (0 ≤ r ↔ x ∈ l.drop i)
 | 0, i, n + 1, h, _ => by rw [slices_Index_int_int.L1, if_neg (by omega), List.drop_of_length_le (by omega)]; exact ⟨_, rfl, by simp⟩
 | m + 1, i, n + 1, h, hn => by
  have h1 : i < l.length := by omega
  have d : (x ∈ l.drop i) ↔ (x = l[i] ∨ x ∈ l.drop (i + 1)) := by rw [List.drop_eq_getElem_cons h1, List.mem_cons]
  rw [slices_Index_int_int.L1, if_pos (by omega), idx_pos h1]
  by_cases e : x = l[i]
  ·rw [if_pos e]; exact ⟨_, rfl, by rw [d]; exact ⟨fun _ => .inl e, fun _ => by omega⟩⟩
  ·rw [if_neg e, succ64 _ (by omega)]
   obtain ⟨r, h2, h3⟩ := index_loop k l x h9 m (i + 1) n (by omega) (by omega)
   exact ⟨r, h2, by rw [d, h3]; simp [e]⟩
theorem of_loop (k : Nat) (l : List Int) (h9 : l.length ≤ 9223372036854775807) : ∀ (m i n : Nat) (B : List Bool), i + m = l.length → m < n → B.length = 64 → (∀ j : Nat, j < 64 → B[j]? = some (decide ((j : Int) ∈ l.take i))) →
 ∃ C, roster_of.L1 k l n (i : Int) B = some C ∧ C.length = 64 ∧ ∀ j : Nat, j < 64 → C[j]? = some (decide ((j : Int) ∈ l))
 | 0, i, n + 1, B, h, _, hB, hj => by
  rw [roster_of.L1, if_neg (by omega), chk_pos hB, chk_pos ⟨by simp, hB⟩, chk_pos hB]
  exact ⟨B, rfl, hB, fun j h1 => by rw [hj j h1, List.take_of_length_le (by omega)]⟩
 | m + 1, i, n + 1, B, h, hn, hB, hj => by
  have h1 : i < l.length := by omega
  have d : ∀ x, (x ∈ l.take (i + 1)) ↔ (x ∈ l.take i ∨ x = l[i]) := by
   intro x; rw [List.take_succ_eq_append_getElem h1, List.mem_append, List.mem_singleton]
  rw [roster_of.L1, if_pos (by omega), idx_pos h1]
  unfold roster_key
  by_cases hk : 0 ≤ l[i] ∧ l[i] < 64
  ·rw [if_pos hk.1, bnd1_some, if_pos (by simp [hk.2]), chk_pos (by omega)]
   unfold roster_of.J2
   dsimp only
   rw [succ64 _ (by omega)]
   refine of_loop k l h9 m (i + 1) n _ (by omega) (by omega) (by simp [hB]) fun j h2 => ?_
   rw [List.getElem?_set]
   by_cases e : l[i].toNat = j
   ·rw [if_pos e, if_pos (by omega)]
    have : (j : Int) = l[i] := by omega
    simp [d, this]
   ·rw [if_neg e, hj j h2]
    have : ¬ (j : Int) = l[i] := by omega
    simp [d, this]
  ·have hf : ∀ c : Option Bool, (bnd1 (if 0 ≤ l[i] then some (decide (l[i] < 64)) else some false) fun v6 => if v6 = true then c else none) = (bnd1 (if 0 ≤ l[i] then some (decide (l[i] < 64)) else some false) fun v6 => if v6 = true then c else none) := fun _ => rfl
   have hg : (if 0 ≤ l[i] then some (decide (l[i] < 64)) else some false) = some false := by
    split
    ·have : ¬ l[i] < 64 := by omega
     simp [this]
    ·rfl
   rw [hg, bnd1_some, if_neg (by simp)]
   unfold roster_of.J2
   dsimp only
   rw [succ64 _ (by omega)]
   refine of_loop k l h9 m (i + 1) n B (by omega) (by omega) hB fun j h2 => ?_
   rw [hj j h2]
   have : ¬ (j : Int) = l[i] := by omega
   simp [d, this]
theorem of_eq (k : Nat) (l : List Int) (hk : l.length < k) (h9 : l.length ≤ 9223372036854775807) : ∃ C, roster_of k l = some C ∧ C.length = 64 ∧ ∀ j : Nat, j < 64 → C[j]? = some (decide ((j : Int) ∈ l)) := by
 unfold roster_of
 exact of_loop k l h9 l.length 0 k _ (by omega) hk (by rw [List.length_replicate]) fun j hj => by rw [List.getElem?_replicate, if_pos hj]; simp
def setJ (a b : List Int) : List Int := sel fun j => decide (j ∈ a) || decide (j ∈ b)
def setM (a b : List Int) : List Int := sel fun j => decide (j ∈ a) && !decide (j ∈ b)
theorem setJ_len (a b : List Int) : (setJ a b).length ≤ 64 := sel_len _
theorem setM_len (a b : List Int) : (setM a b).length ≤ 64 := sel_len _
theorem idx_get {α β : Type} {l : List α} {i : Nat} {x : α} {f : α → Option β} (h : l[i]? = some x) : idx l (i : Int) f = f x := by
 obtain ⟨h1, h2⟩ := List.getElem?_eq_some_iff.1 h
 rw [idx_pos h1, h2]
theorem minus_loop (k : Nat) (a b : List Int) (A B : List Bool) (hA : A.length = 64) (hB : B.length = 64) (jA : ∀ j : Nat, j < 64 → A[j]? = some (decide ((j : Int) ∈ a))) (jB : ∀ j : Nat, j < 64 → B[j]? = some (decide ((j : Int) ∈ b))) :
 ∀ (m i n : Nat) (acc : List Int), i + m = 64 → m < n → acc.length ≤ i → roster_keys_Minus_1.L1 k A B n (i : Int) acc = some (acc ++ selF (fun j => decide (j ∈ a) && !decide (j ∈ b)) m i)
 | 0, i, n + 1, acc, h, _, _ => by rw [roster_keys_Minus_1.L1, if_neg (by omega)]; simp [selF]
 | m + 1, i, n + 1, acc, h, hn, hl => by
  rw [roster_keys_Minus_1.L1, if_pos (by omega)]
  have e : roster_Minus_1 k (i : Int) A B = some (decide ((i : Int) ∈ a) && !decide ((i : Int) ∈ b)) := by
   unfold roster_Minus_1
   rw [chk_pos (by omega), idx_get (jA i (by omega)), chk_pos (by omega), idx_get (jB i (by omega))]
   by_cases h1 : (i : Int) ∈ a <;> simp [h1]
  rw [e, bnd1_some, selF]
  unfold roster_keys_Minus_1.J2
  dsimp only
  rw [succ64 _ (by omega)]
  split
  ·rw [chk_pos (by simp only [List.length_append, List.length_cons, List.length_nil]; omega), minus_loop k a b A B hA hB jA jB m (i + 1) n _ (by omega) (by omega) (by simp only [List.length_append, List.length_cons, List.length_nil]; omega)]; simp
  ·rw [minus_loop k a b A B hA hB jA jB m (i + 1) n _ (by omega) (by omega) (by omega)]
theorem Minus_eq (k : Nat) (a b : List Int) (hk : 64 < k) (ha : a.length < k) (hb : b.length < k) (ha9 : a.length ≤ 9223372036854775807) (hb9 : b.length ≤ 9223372036854775807) : roster_Minus k a b = some (setM a b) := by
 unfold roster_Minus
 obtain ⟨A, e1, h1, j1⟩ := of_eq k a (by omega) (by omega)
 obtain ⟨B, e2, h2, j2⟩ := of_eq k b (by omega) (by omega)
 rw [e1, bnd1_some, e2, bnd1_some, chk_pos ⟨by simp, h1⟩, chk_pos ⟨by simp, h2⟩]
 unfold roster_keys_Minus_1
 rw [show (0 : Int) = ((0 : Nat) : Int) from rfl, minus_loop k a b A B h1 h2 j1 j2 64 0 k [] (by omega) (by omega) (by simp), bnd1_some]
 rfl
theorem refMinus_loop (k : Nat) (a b : List Int) (ha : a.length < k) (hb : b.length < k) (ha9 : a.length ≤ 9223372036854775807) (hb9 : b.length ≤ 9223372036854775807) :
 ∀ (m i n : Nat) (acc : List Int), i + m = 64 → m < n → acc.length ≤ i → ref24_Minus.L1 k a b n (i : Int) acc = some (acc ++ selF (fun j => decide (j ∈ a) && !decide (j ∈ b)) m i)
 | 0, i, n + 1, acc, h, _, _ => by rw [ref24_Minus.L1, if_neg (by omega)]; simp [selF]
 | m + 1, i, n + 1, acc, h, hn, hl => by
  rw [ref24_Minus.L1, if_pos (by omega), refHas_eq k a _ ha ha9, bnd1_some, refHas_eq k b _ hb hb9, bnd1_some, selF]
  unfold ref24_Minus.J2
  dsimp only
  rw [succ64 _ (by omega), chk_pos (by simp only [List.length_append, List.length_cons, List.length_nil]; omega)]
  have r1 := refMinus_loop k a b ha hb ha9 hb9 m (i + 1) n (acc ++ [(i : Int)]) (by omega) (by omega) (by simp only [List.length_append, List.length_cons, List.length_nil]; omega)
  have r2 := refMinus_loop k a b ha hb ha9 hb9 m (i + 1) n acc (by omega) (by omega) (by omega)
  rw [r1, r2]
  by_cases h1 : (i : Int) ∈ a <;> by_cases h2 : (i : Int) ∈ b <;> simp [h1, h2]
theorem refMinus_eq (k : Nat) (a b : List Int) (hk : 64 < k) (ha : a.length < k) (hb : b.length < k) (ha9 : a.length ≤ 9223372036854775807) (hb9 : b.length ≤ 9223372036854775807) : ref24_Minus k a b = some (setM a b) := by
 unfold ref24_Minus
 rw [show (0 : Int) = ((0 : Nat) : Int) from rfl, refMinus_loop k a b (by omega) (by omega) (by omega) (by omega) 64 0 k [] (by omega) (by omega) (by simp)]
 rfl
theorem same23_loop (k : Nat) (a b : List Int) (hl : a.length = b.length) (h9 : a.length ≤ 9223372036854775807) : ∀ (m i n : Nat), i + m = a.length → m < n → ref23_SameInts.L1 k a b n (i : Int) = some (decide (a.drop i = b.drop i))
 | 0, i, n + 1, h, _ => by
  rw [ref23_SameInts.L1, if_neg (by omega), List.drop_of_length_le (by omega), List.drop_of_length_le (by omega)]; simp
 | m + 1, i, n + 1, h, hn => by
  have h1 : i < a.length := by omega
  have h2 : i < b.length := by omega
  have d3 : (a.drop i = b.drop i) ↔ (a[i] = b[i] ∧ a.drop (i + 1) = b.drop (i + 1)) := by rw [List.drop_eq_getElem_cons h1, List.drop_eq_getElem_cons h2, List.cons.injEq]
  rw [ref23_SameInts.L1, if_pos (by omega), idx_pos h1, idx_pos h2]
  by_cases e : a[i] = b[i]
  ·rw [if_neg (by simp [e]), succ64 _ (by omega), same23_loop k a b hl h9 m (i + 1) n (by omega) (by omega)]
   simp only [d3, e, true_and]
  ·rw [if_pos e]; simp only [d3, e, false_and, decide_false]
theorem same23_eq (k : Nat) (a b : List Int) (ha : a.length < k) (h9 : a.length ≤ 9223372036854775807) : ref23_SameInts k a b = some (decide (a = b)) := by
 unfold ref23_SameInts
 by_cases h : a.length = b.length
 ·rw [if_neg (by omega)]
  exact same23_loop k a b h h9 a.length 0 k (by omega) ha
 ·rw [if_pos (by omega)]
  simp
  intro e; exact h (by rw [e])
theorem same23_refl (k : Nat) (a : List Int) (ha : a.length < k) (h9 : a.length ≤ 9223372036854775807) : ref23_SameInts k a a = some true := by rw [same23_eq k a a ha h9]; simp
def prevOf (l : List Int) (i : Nat) : Int := if i = 0 then -1 else l.getD (i - 1) 0
theorem valid_loop (k : Nat) (l : List Int) (hk : l.length < k) (h9 : l.length ≤ 9223372036854775807) : ∀ (m i n : Nat), i + m = l.length → m < n → -1 ≤ prevOf l i → (0 < i → ∃ x ∈ l, 0 ≤ x ∧ x < 64) → roster_Valid.L1 k l n (i : Int) = some (!l.isEmpty && asc (prevOf l i) (l.drop i))
 | 0, i, n + 1, h, _, _, hi => by
  rw [roster_Valid.L1, if_neg (by omega), List.drop_of_length_le (by omega)]
  obtain ⟨C, e, h1, h2⟩ := of_eq k l hk h9
  rw [e, bnd1_some, chk_pos h1]
  by_cases hz : l = []
  ·have : C = List.replicate 64 false := by
    apply List.ext_getElem?
    intro j
    by_cases hj : j < 64
    ·rw [h2 j hj, List.getElem?_replicate, if_pos hj]; simp [hz]
    ·rw [List.getElem?_eq_none (by omega), List.getElem?_eq_none (by rw [List.length_replicate]; omega)]
   rw [this]; simp [hz]
  ·have hl : 0 < l.length := List.length_pos_iff.2 hz
   obtain ⟨x, hx, hr⟩ := hi (by omega)
   have h3 := h2 x.toNat (by omega)
   have : ((x.toNat : Nat) : Int) = x := by omega
   rw [this] at h3
   have : C ≠ List.replicate 64 false := by
    rintro rfl
    rw [List.getElem?_replicate, if_pos (by omega)] at h3
    simp [hx] at h3
   simp only [asc, Bool.and_true]
   rw [bne_iff_ne.2 this]
   simp [hz]
 | m + 1, i, n + 1, h, hn, hp, hi => by
  have h1 : i < l.length := by omega
  have hz : l ≠ [] := by rintro rfl; simp at h1
  have hz : (!l.isEmpty) = true := by simp [hz]
  rw [roster_Valid.L1, if_pos (by omega), idx_pos h1, List.drop_eq_getElem_cons h1, hz, Bool.true_and]
  simp only [asc]
  unfold roster_key
  have hn1 : prevOf l (i + 1) = l[i] := by simp [prevOf, List.getD_eq_getElem?_getD, h1]
  by_cases hk' : 0 ≤ l[i] ∧ l[i] < 64
  ·have rc := valid_loop k l hk h9 m (i + 1) n (by omega) (by omega) (by rw [hn1]; omega) (fun _ => ⟨l[i], List.getElem_mem h1, hk'⟩)
   rw [hz, Bool.true_and, hn1] at rc
   rw [if_pos hk'.1, bnd1_some, if_neg (by simp [hk'.2])]
   unfold roster_Valid.J2
   dsimp only
   rw [succ64 _ (by omega), rc]
   by_cases h0 : 0 < i
   ·have h2 : i - 1 < l.length := by omega
    rw [if_pos (by omega), show IntKind.wrap .i64 ((i : Int) - 1) = ((i - 1 : Nat) : Int) by rw [w64 (by omega) (by omega)]; omega, idx_pos h2]
    have hp1 : prevOf l i = l[i - 1] := by
     unfold prevOf
     rw [if_neg (by omega), List.getD_eq_getElem?_getD, List.getElem?_eq_getElem h2]; rfl
    rw [hp1]
    by_cases hlt : l[i] ≤ l[i - 1]
    ·rw [if_pos hlt]
     have : ¬ l[i - 1] < l[i] := by omega
     simp [this]
    ·rw [if_neg hlt]
     have : l[i - 1] < l[i] := by omega
     simp [this, hk']
   ·obtain rfl : i = 0 := by omega
    rw [if_neg (by omega)]
    have : prevOf l 0 = -1 := rfl
    have : prevOf l 0 < l[0] := by omega
    simp [this, hk']
  ·have hg : (if 0 ≤ l[i] then some (decide (l[i] < 64)) else some false) = some false := by
    split
    ·have : ¬ l[i] < 64 := by omega
     simp [this]
    ·rfl
   rw [hg, bnd1_some, if_pos (by simp)]
   have : (decide (0 ≤ l[i]) && decide (l[i] < 64)) = false := by
    by_cases h2 : 0 ≤ l[i]
    ·have : ¬ l[i] < 64 := by omega
     simp [this]
    ·simp [h2]
   rw [this]; simp
theorem Valid_eq (k : Nat) (l : List Int) (hk : l.length < k) (h9 : l.length ≤ 9223372036854775807) : roster_Valid k l = some (okR l) := by
 unfold roster_Valid
 rw [show (0 : Int) = ((0 : Nat) : Int) from rfl, valid_loop k l hk h9 l.length 0 k (by omega) hk (by simp [prevOf]) (by simp)]
 rfl
theorem refValid_loop (k : Nat) (l : List Int) (h9 : l.length ≤ 9223372036854775807) : ∀ (m i n : Nat), i + m = l.length → m < n → ref24_Valid.L1 k l n (i : Int) = some (asc (prevOf l i) (l.drop i))
 | 0, i, n + 1, h, _ => by
  rw [ref24_Valid.L1, if_neg (by omega), List.drop_of_length_le (by omega)]; rfl
 | m + 1, i, n + 1, h, hn => by
  have h1 : i < l.length := by omega
  rw [ref24_Valid.L1, if_pos (by omega), idx_pos h1, List.drop_eq_getElem_cons h1]
  simp only [asc]
  have hn1 : prevOf l (i + 1) = l[i] := by simp [prevOf, List.getD_eq_getElem?_getD, h1]
  have rc := refValid_loop k l h9 m (i + 1) n (by omega) (by omega)
  rw [hn1] at rc
  by_cases hb : l[i] < 0
  ·rw [if_pos hb]
   have : ¬ 0 ≤ l[i] := by omega
   simp [this]
  rw [if_neg hb]
  by_cases hc : 64 ≤ l[i]
  ·rw [if_pos hc]
   have : ¬ l[i] < 64 := by omega
   simp [this]
  rw [if_neg hc]
  have hk1 : 0 ≤ l[i] := by omega
  have hk2 : l[i] < 64 := by omega
  unfold ref24_Valid.J2
  dsimp only
  rw [succ64 _ (by omega), rc]
  by_cases h0 : 0 < i
  ·have h2 : i - 1 < l.length := by omega
   rw [if_pos (by omega), show IntKind.wrap .i64 ((i : Int) - 1) = ((i - 1 : Nat) : Int) by rw [w64 (by omega) (by omega)]; omega, idx_pos h2]
   have hp1 : prevOf l i = l[i - 1] := by
    unfold prevOf
    rw [if_neg (by omega), List.getD_eq_getElem?_getD, List.getElem?_eq_getElem h2]; rfl
   rw [hp1]
   by_cases hlt : l[i] ≤ l[i - 1]
   ·rw [if_pos hlt]
    have : ¬ l[i - 1] < l[i] := by omega
    simp [this]
   ·rw [if_neg hlt]
    have : l[i - 1] < l[i] := by omega
    simp [this, hk1, hk2]
  ·obtain rfl : i = 0 := by omega
   rw [if_neg (by omega)]
   have : prevOf l 0 = -1 := rfl
   have : prevOf l 0 < l[0] := by omega
   simp [this, hk1, hk2]
theorem refValid_eq (k : Nat) (l : List Int) (hk : l.length < k) (h9 : l.length ≤ 9223372036854775807) : ref24_Valid k l = some (okR l) := by
 unfold ref24_Valid okR
 by_cases h0 : (l.length : Int) = 0
 ·rw [if_pos h0]
  have : l = [] := List.length_eq_zero_iff.1 (by omega)
  simp [this]
 have hne : l ≠ [] := by rintro rfl; simp at h0
 rw [if_neg h0]
 by_cases h1 : 64 < (l.length : Int)
 ·rw [if_pos h1]
  have : ¬ asc (-1) l = true := fun h => by have := asc_len h (by omega) (by omega); omega
  simp only [Bool.not_eq_true] at this
  rw [this]; simp
 ·rw [if_neg h1, show (0 : Int) = ((0 : Nat) : Int) from rfl, refValid_loop k l h9 l.length 0 k (by omega) hk]
  have : prevOf l 0 = -1 := rfl
  rw [this]; simp [hne]
end Go.TF
