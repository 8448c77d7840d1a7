/- Plain laws: what is sorted and deleted; distances as the program finds them. -/
import Derived.Test.YtmiimcogppdepaaHaPdq
set_option linter.unusedVariables false
set_option linter.unusedSimpArgs false
namespace Go.TF
open Go Go.Abs
theorem take_set {α : Type} {l : List α} {i : Nat} {x : α} (h : i < l.length) : (l.set i x).take (i + 1) = l.take i ++ [x] := by
 rw [List.set_eq_take_append_cons_drop, if_pos h]
 have hl : (l.take i).length = i := by rw [List.length_take]; omega
 have : (l.take i ++ x :: l.drop (i + 1)).take (i + 1) = ((l.take i ++ [x]) ++ l.drop (i + 1)).take (l.take i ++ [x]).length := by
  rw [List.length_append, hl]; simp
 rw [this, List.take_left']; rfl
theorem take_rep {α : Type} {l : List α} {i n : Nat} {z : α} (h : i ≤ l.length) : (l.take i ++ List.replicate n z).take i = l.take i := by
 rw [List.take_left']; rw [List.length_take]; omega
structure Del {α : Type} (p : α → Bool) (L l : List α) (i j : Nat) : Prop where
 len : l.length = L.length
 lt : i < j
 le : j ≤ L.length
 kept : l.take i = (L.take j).filter p
 rest : l.drop j = L.drop j
theorem Del.keep {α : Type} {p : α → Bool} {L l : List α} {i j : Nat} (D : Del p L l i j) (h : j < L.length) (hp : p L[j] = true) : Del p L (l.set i L[j]) (i + 1) (j + 1) where
 len := by rw [List.length_set, D.len]
 lt := by have := D.lt; omega
 le := h
 kept := by
  have := D.lt
  rw [take_set (by rw [D.len]; omega), D.kept, List.take_succ_eq_append_getElem h, List.filter_append]; simp [hp]
 rest := by
  have := D.lt
  rw [List.drop_set_of_lt (by omega)]
  have := congrArg (List.drop 1) D.rest
  rwa [List.drop_drop, List.drop_drop] at this
theorem Del.pass {α : Type} {p : α → Bool} {L l : List α} {i j : Nat} (D : Del p L l i j) (h : j < L.length) (hp : p L[j] = false) : Del p L l i (j + 1) where
 len := D.len
 lt := by have := D.lt; omega
 le := h
 kept := by rw [D.kept, List.take_succ_eq_append_getElem h, List.filter_append]; simp [hp]
 rest := by
  have := congrArg (List.drop 1) D.rest
  rwa [List.drop_drop, List.drop_drop] at this
theorem Del.at {α : Type} {p : α → Bool} {L l : List α} {i j : Nat} (D : Del p L l i j) (h : j < l.length) : l[j] = L[j]'(by rw [← D.len]; exact h) := by
 have h' : j < L.length := by rw [← D.len]; exact h
 have := D.rest
 rw [List.drop_eq_getElem_cons h, List.drop_eq_getElem_cons h'] at this
 exact (List.cons.inj this).1
theorem Del.first {α : Type} {p : α → Bool} {L : List α} {i : Nat} (h : i < L.length) (h1 : ∀ x ∈ L.take i, p x = true) (h2 : p L[i] = false) : Del p L L i (i + 1) where
 len := rfl
 lt := by omega
 le := h
 kept := by
  rw [List.take_succ_eq_append_getElem h, List.filter_append, List.filter_eq_self.2 h1]; simp [h2]
 rest := rfl
def out2 (d : List Int) (y : Int) : Bool := !decide (0 ≤ y ∧ y < d.length) || decide (0 ≤ d.getD y.toNat 0)
theorem all2_eq (k : Nat) (d : List Int) (y : Int) (h9 : d.length ≤ 1000000) : distance_All_2 k y d = some (out2 d y) := by
 unfold distance_All_2 lists_In out2
 rw [w64 (by omega) (by omega)]
 by_cases h : 0 ≤ y
 ·rw [if_pos h, bnd1_some]
  by_cases h2 : y < d.length
  ·obtain ⟨i, rfl⟩ := Int.eq_ofNat_of_zero_le h
   have h3 : i < d.length := by omega
   rw [if_neg (by simp; omega), chk_pos ⟨h, by omega⟩, idx_pos h3]
   simp [h2, List.getD_eq_getElem?_getD, List.getElem?_eq_getElem h3]
  ·rw [if_pos (by simp; omega)]; simp [h2]
 ·rw [if_neg h, bnd1_some, if_pos (by simp)]; simp [h]
theorem idxI_loop (k : Nat) (L d : List Int) (h9 : L.length ≤ 1000000) (hd : d.length ≤ 1000000) : ∀ (m i n : Nat), i + m = L.length → m < n → (∀ x ∈ L.take i, (!out2 d x) = true) → ∃ r, slices_IndexFunc_int_int_All_2.L1 k L d n (i : Int) = some r ∧ ((r = -1 ∧ ∀ x ∈ L, (!out2 d x) = true) ∨ ∃ j : Nat, ∃ h : j < L.length, r = (j : Int) ∧ (!out2 d L[j]) = false ∧ ∀ x ∈ L.take j, (!out2 d x) = true)
 | 0, i, n + 1, h, _, hp => by
  rw [slices_IndexFunc_int_int_All_2.L1, if_neg (by omega)]
  rw [List.take_of_length_le (by omega)] at hp
  exact ⟨_, rfl, .inl ⟨rfl, hp⟩⟩
 | m + 1, i, n + 1, h, hn, hp => by
  have hi : i < L.length := by omega
  rw [slices_IndexFunc_int_int_All_2.L1, if_pos (by omega), idx_pos hi, all2_eq k d _ hd, bnd1_some]
  by_cases e : out2 d L[i] = true
  ·rw [if_pos e]; exact ⟨_, rfl, .inr ⟨i, hi, rfl, by simp [e], hp⟩⟩
  ·rw [if_neg e, sc64 i (by omega)]
   refine idxI_loop k L d h9 hd m (i + 1) n (by omega) (by omega) fun x hx => ?_
   rw [List.take_succ_eq_append_getElem hi, List.mem_append] at hx
   rcases hx with hx | hx
   ·exact hp x hx
   ·simp only [List.mem_singleton] at hx; subst hx; simpa using e
theorem delI_loop (k : Nat) (L d : List Int) (h9 : L.length ≤ 1000000) (hd : d.length ≤ 1000000) : ∀ (m j i n : Nat) (l : List Int), j + m = L.length → m < n → Del (fun x => !out2 d x) L l i j → slices_DeleteFunc_int_int_All_2.L1 k d n (i : Int) (j : Int) l = some (L.filter fun x => !out2 d x)
 | 0, j, i, n + 1, l, h, _, D => by
  have h1 := D.len; have h2 := D.lt; have h3 := D.le
  rw [slices_DeleteFunc_int_int_All_2.L1, if_neg (by omega), chk_pos (by omega), chk_pos (by omega), let1_eq, chk_pos (by simp; omega)]
  rw [show ((i : Int)).toNat = i by omega, take_rep (by omega), D.kept, List.take_of_length_le (by omega)]
 | m + 1, j, i, n + 1, l, h, hn, D => by
  have h1 := D.len; have h2 := D.lt; have h3 := D.le
  have hj : j < l.length := by omega
  have hj' : j < L.length := by omega
  rw [slices_DeleteFunc_int_int_All_2.L1, if_pos (by omega), chk_pos (by omega), idx_pos hj, all2_eq k d _ hd, bnd1_some, D.at hj]
  unfold slices_DeleteFunc_int_int_All_2.J2
  simp only [sc64 j (by omega), sc64 i (by omega)]
  by_cases e : (!out2 d L[j]) = true
  ·rw [if_pos e, chk_pos (by omega), show ((i : Int)).toNat = i by omega]
   exact delI_loop k L d h9 hd m (j + 1) (i + 1) n _ (by omega) (by omega) (D.keep hj' e)
  ·rw [if_neg e]
   exact delI_loop k L d h9 hd m (j + 1) i n _ (by omega) (by omega) (D.pass hj' (by simpa using e))
theorem delI_eq (k : Nat) (L d : List Int) (hk : L.length < k) (h9 : L.length ≤ 1000000) (hd : d.length ≤ 1000000) : slices_DeleteFunc_int_int_All_2 k L d = some (L.filter fun x => !out2 d x) := by
 unfold slices_DeleteFunc_int_int_All_2 slices_IndexFunc_int_int_All_2
 obtain ⟨r, e, c⟩ := idxI_loop k L d h9 hd L.length 0 k (by omega) hk (by simp)
 rw [show (0 : Int) = ((0 : Nat) : Int) from rfl, e, bnd1_some]
 rcases c with ⟨rfl, c⟩ | ⟨j, hj, rfl, c1, c2⟩
 ·rw [if_pos rfl, List.filter_eq_self.2 c]
 ·rw [if_neg (by omega), sc64 j (by omega)]
  exact delI_loop k L d h9 hd (L.length - (j + 1)) (j + 1) j k L (by omega) (by omega) (Del.first hj c2 c1)
def lvE (lv : Int) (e : api_Edge) : Bool := decide (lv ≤ e.Level)
theorem lv1_eq (k : Nat) (e : api_Edge) (lv : Int) : graph_Level_1 k e.From e.To e.Level lv = some (!lvE lv e) := by
 unfold graph_Level_1 lvE
 by_cases h : lv ≤ e.Level
 ·have : ¬ e.Level < lv := by omega
  simp [h, this]
 ·have : e.Level < lv := by omega
  simp [h, this]
theorem idxE_loop (k : Nat) (L : List api_Edge) (lv : Int) (h9 : L.length ≤ 1000000) : ∀ (m i n : Nat), i + m = L.length → m < n → (∀ x ∈ L.take i, lvE lv x = true) → ∃ r, slices_IndexFunc_api_Edge_api_Edge_Level_1.L1 k L lv n (i : Int) = some r ∧ ((r = -1 ∧ ∀ x ∈ L, lvE lv x = true) ∨ ∃ j : Nat, ∃ h : j < L.length, r = (j : Int) ∧ lvE lv L[j] = false ∧ ∀ x ∈ L.take j, lvE lv x = true)
 | 0, i, n + 1, h, _, hp => by
  rw [slices_IndexFunc_api_Edge_api_Edge_Level_1.L1, if_neg (by omega)]
  rw [List.take_of_length_le (by omega)] at hp
  exact ⟨_, rfl, .inl ⟨rfl, hp⟩⟩
 | m + 1, i, n + 1, h, hn, hp => by
  have hi : i < L.length := by omega
  rw [slices_IndexFunc_api_Edge_api_Edge_Level_1.L1, if_pos (by omega), idx_pos hi, lv1_eq, bnd1_some]
  by_cases e : lvE lv L[i] = true
  ·rw [if_neg (by simp [e]), sc64 i (by omega)]
   refine idxE_loop k L lv h9 m (i + 1) n (by omega) (by omega) fun x hx => ?_
   rw [List.take_succ_eq_append_getElem hi, List.mem_append] at hx
   rcases hx with hx | hx
   ·exact hp x hx
   ·simp only [List.mem_singleton] at hx; subst hx; exact e
  ·rw [if_pos (by simpa using e)]; exact ⟨_, rfl, .inr ⟨i, hi, rfl, by simpa using e, hp⟩⟩
theorem delE_loop (k : Nat) (L : List api_Edge) (lv : Int) (h9 : L.length ≤ 1000000) : ∀ (m j i n : Nat) (l : List api_Edge), j + m = L.length → m < n → Del (lvE lv) L l i j → slices_DeleteFunc_api_Edge_api_Edge_Level_1_o.L1 k lv n (i : Int) (j : Int) l = some (L.filter (lvE lv))
 | 0, j, i, n + 1, l, h, _, D => by
  have h1 := D.len; have h2 := D.lt; have h3 := D.le
  rw [slices_DeleteFunc_api_Edge_api_Edge_Level_1_o.L1, if_neg (by omega), chk_pos (by omega), chk_pos (by omega), let1_eq, chk_pos (by simp; omega)]
  rw [show ((i : Int)).toNat = i by omega, take_rep (by omega), D.kept, List.take_of_length_le (by omega)]
 | m + 1, j, i, n + 1, l, h, hn, D => by
  have h1 := D.len; have h2 := D.lt; have h3 := D.le
  have hj : j < l.length := by omega
  have hi : i < l.length := by omega
  have hj' : j < L.length := by omega
  rw [slices_DeleteFunc_api_Edge_api_Edge_Level_1_o.L1, if_pos (by omega), idx_pos hj, lv1_eq, bnd1_some, D.at hj]
  unfold slices_DeleteFunc_api_Edge_api_Edge_Level_1_o.J2
  simp only [sc64 j (by omega), sc64 i (by omega)]
  by_cases e : lvE lv L[j] = true
  ·rw [if_pos (by simp [e]), idx_pos hi, show ((i : Int)).toNat = i by omega]
   exact delE_loop k L lv h9 m (j + 1) (i + 1) n _ (by omega) (by omega) (D.keep hj' e)
  ·rw [if_neg (by simpa using e)]
   exact delE_loop k L lv h9 m (j + 1) i n _ (by omega) (by omega) (D.pass hj' (by simpa using e))
theorem delE_eq (k : Nat) (L : List api_Edge) (lv : Int) (hk : L.length < k) (h9 : L.length ≤ 1000000) : slices_DeleteFunc_api_Edge_api_Edge_Level_1_o k L lv = some (L.filter (lvE lv)) := by
 unfold slices_DeleteFunc_api_Edge_api_Edge_Level_1_o slices_IndexFunc_api_Edge_api_Edge_Level_1
 obtain ⟨r, e, c⟩ := idxE_loop k L lv h9 L.length 0 k (by omega) hk (by simp)
 rw [show (0 : Int) = ((0 : Nat) : Int) from rfl, e, bnd1_some]
 rcases c with ⟨rfl, c⟩ | ⟨j, hj, rfl, c1, c2⟩
 ·rw [if_pos rfl, List.filter_eq_self.2 c]
 ·rw [if_neg (by omega), sc64 j (by omega)]
  exact delE_loop k L lv h9 (L.length - (j + 1)) (j + 1) j k L (by omega) (by omega) (Del.first hj c2 c1)
theorem gLevel_eq (k : Nat) (N : Int) (E : List api_Edge) (g : List Int) (lv : Int) (hk : E.length < k) (h9 : E.length ≤ 1000000) (hg9 : g.length ≤ 1000000) : graph_Level_o k N E g lv = some (N, E.filter (lvE lv), g) := by
 unfold graph_Level_o graph_copied_o slices_Clone_api_Edge_api_Edge slices_Clone_int_int
 rw [chk_pos (by omega), bnd1_some, chk_pos (by omega), bnd1_some, bnd3_some, delE_eq k E lv hk h9, bnd1_some]
theorem rLevel_loop (k : Nat) (E : List api_Edge) (lv N : Int) (g : List Int) (h9 : E.length ≤ 1000000) : ∀ (m i n : Nat) (acc : List api_Edge), i + m = E.length → m < n → acc = (E.take i).filter (lvE lv) → ref11_Level.L1 k E lv N g n (i : Int) acc = some (N, E.filter (lvE lv), g)
 | 0, i, n + 1, acc, h, _, ha => by
  rw [ref11_Level.L1, if_neg (by omega), ha, List.take_of_length_le (by omega)]
 | m + 1, i, n + 1, acc, h, hn, ha => by
  have hi : i < E.length := by omega
  have hl : acc.length ≤ i := by rw [ha]; exact Nat.le_trans (List.length_filter_le _ _) (by rw [List.length_take]; omega)
  have ht : (E.take (i + 1)).filter (lvE lv) = acc ++ [E[i]].filter (lvE lv) := by rw [List.take_succ_eq_append_getElem hi, List.filter_append, ha]
  rw [ref11_Level.L1, if_pos (by omega), idx_pos hi]
  unfold ref11_Level.J2
  simp only [sc64 i (by omega)]
  by_cases e : lv ≤ E[i].Level
  ·rw [if_pos e, chk_pos (by simp; omega)]
   exact rLevel_loop k E lv N g h9 m (i + 1) n _ (by omega) (by omega) (by rw [ht]; simp [lvE, e])
  ·rw [if_neg e]
   exact rLevel_loop k E lv N g h9 m (i + 1) n _ (by omega) (by omega) (by rw [ht]; simp [lvE, e])
theorem rLevel_eq (k : Nat) (N : Int) (E : List api_Edge) (g : List Int) (lv : Int) (hk : E.length < k) (h9 : E.length ≤ 1000000) (hg9 : g.length ≤ 1000000) : ref11_Level k N E g lv = some (N, E.filter (lvE lv), g) := by
 unfold ref11_Level ref11_Copy_o
 rw [chk_pos (by omega), chk_pos (by omega), bnd3_some]
 exact rLevel_loop k E lv N g h9 E.length 0 k [] (by omega) hk (by simp)
end Go.TF
