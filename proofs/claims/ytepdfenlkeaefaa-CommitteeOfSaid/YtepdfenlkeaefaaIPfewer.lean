/- Plain laws of layer 26: fewer seats. -/
import Derived.Test.YtepdfenlkeaefaaIPdraw
set_option linter.unusedVariables false
set_option linter.unusedSimpArgs false
namespace Go.TF
open Go Go.Abs
def drawn : List Int → List Int → List Int
 | _, [] => []
 | left, x :: xs => left.getD (x % left.length).toNat 0 :: drawn (left.take (x % left.length).toNat ++ left.drop ((x % left.length).toNat + 1)) xs
theorem drawn_len : ∀ (xs left : List Int), (drawn left xs).length = xs.length
 | [], _ => rfl
 | x :: xs, left => by rw [drawn]; simp [drawn_len xs]
theorem drawL_eq : ∀ (xs left out : List Int), (∀ x ∈ xs, 0 ≤ x) → drawL left xs out = (out ++ drawn left xs, 0)
 | [], _, out, _ => by simp [drawL, drawn]
 | x :: xs, left, out, h => by
  have := h x (by simp)
  rw [drawL, if_neg (by omega), drawL_eq xs _ _ (fun y hy => h y (by simp [hy])), drawn]; simp
theorem drawn_take : ∀ (n : Nat) (xs left : List Int), drawn left (xs.take n) = (drawn left xs).take n
 | 0, _, _ => by simp [drawn]
 | n + 1, [], _ => by simp [drawn]
 | n + 1, x :: xs, left => by rw [List.take_succ_cons, drawn, drawn, List.take_succ_cons, drawn_take n xs]
theorem drawn_congr : ∀ (xs ys left : List Int), xs.length = ys.length → xs.length ≤ left.length → (∀ i (h1 : i < xs.length) (h2 : i < ys.length), xs[i] % ((left.length : Int) - i) = ys[i] % ((left.length : Int) - i)) → drawn left xs = drawn left ys
 | [], [], _, _, _, _ => rfl
 | [], y :: ys, _, h, _, _ => by simp at h
 | x :: xs, [], _, h, _, _ => by simp at h
 | x :: xs, y :: ys, left, h, hl, he => by
  have h0 := he 0 (by simp) (by simp)
  simp at h0 h hl
  rw [drawn, drawn, h0]
  congr 1
  have hp : (0 : Int) < left.length := by omega
  have hr := Int.emod_nonneg y (show (left.length : Int) ≠ 0 by omega)
  have hr2 := Int.emod_lt_of_pos y hp
  have hrl := rest_len left (y % left.length).toNat (by omega)
  refine drawn_congr xs ys _ h (by rw [hrl]; omega) fun i h1 h2 => ?_
  have := he (i + 1) (by simp; omega) (by simp; omega)
  simp at this
  rw [hrl]
  have e : ((left.length - 1 : Nat) : Int) - (i : Int) = (left.length : Int) - ((i : Int) + 1) := by omega
  rw [e]; exact this
theorem drawn_mem : ∀ (xs left : List Int) (z : Int), xs.length = left.length → (z ∈ drawn left xs ↔ z ∈ left)
 | [], left, z, h => by
  have : left = [] := List.length_eq_zero_iff.1 (by simpa using h.symm)
  simp [drawn, this]
 | x :: xs, left, z, h => by
  simp at h
  have hp : (0 : Int) < left.length := by omega
  have hr := Int.emod_nonneg x (show (left.length : Int) ≠ 0 by omega)
  have hr2 := Int.emod_lt_of_pos x hp
  have hj : (x % left.length).toNat < left.length := by omega
  have hrl := rest_len left _ hj
  rw [drawn, List.mem_cons, drawn_mem xs _ z (by rw [hrl]; omega)]
  have e : left = left.take (x % left.length).toNat ++ left[(x % left.length).toNat] :: left.drop ((x % left.length).toNat + 1) := by
   rw [← List.drop_eq_getElem_cons hj, List.take_append_drop]
  have g : left.getD (x % left.length).toNat 0 = left[(x % left.length).toNat] := by simp [List.getD_eq_getElem?_getD, hj]
  rw [g]
  conv => rhs; rw [e]
  simp only [List.mem_append, List.mem_cons]
  constructor
  ·rintro (h | h | h)
   ·exact .inr (.inl h)
   ·exact .inl h
   ·exact .inr (.inr h)
  ·rintro (h | h | h)
   ·exact .inr (.inl h)
   ·exact .inl h
   ·exact .inr (.inr h)
theorem asc_pair : ∀ {l : List Int} {p : Int}, asc p l = true → l.Pairwise (· < ·) ∧ ∀ x ∈ l, p < x
 | [], _, _ => ⟨.nil, by simp⟩
 | a :: l, p, h => by
  simp [asc] at h
  obtain ⟨h1, h2⟩ := asc_pair h.2
  refine ⟨List.pairwise_cons.2 ⟨h2, h1⟩, fun x hx => ?_⟩
  rcases List.mem_cons.1 hx with rfl | hx
  ·exact h.1.2
  ·have := h2 x hx; omega
theorem pair_asc : ∀ {l : List Int} {p : Int}, l.Pairwise (· < ·) → (∀ x ∈ l, p < x ∧ 0 ≤ x ∧ x < 64) → asc p l = true
 | [], _, _, _ => rfl
 | a :: l, p, h, hx => by
  have h0 := hx a (by simp)
  rw [List.pairwise_cons] at h
  simp only [asc, Bool.and_eq_true, decide_eq_true_eq]
  exact ⟨⟨⟨h0.2.1, h0.2.2⟩, h0.1⟩, pair_asc h.2 fun x h1 => ⟨h.1 x h1, (hx x (by simp [h1])).2⟩⟩
theorem pair_ext : ∀ {l m : List Int}, l.Pairwise (· < ·) → m.Pairwise (· < ·) → (∀ x, x ∈ l ↔ x ∈ m) → l = m
 | [], [], _, _, _ => rfl
 | [], b :: m, _, _, h => by have := (h b).2 (by simp); simp at this
 | a :: l, [], _, _, h => by have := (h a).1 (by simp); simp at this
 | a :: l, b :: m, h1, h2, h => by
  rw [List.pairwise_cons] at h1 h2
  have e : a = b := by
   have x1 := (h a).1 (by simp)
   have x2 := (h b).2 (by simp)
   rcases List.mem_cons.1 x1 with e | x1
   ·exact e
   rcases List.mem_cons.1 x2 with e | x2
   ·exact e.symm
   have := h2.1 a x1
   have := h1.1 b x2
   omega
  subst e
  congr 1
  refine pair_ext h1.2 h2.2 fun x => ?_
  have hx := h x
  simp only [List.mem_cons] at hx
  constructor
  ·intro hl
   have := h1.1 x hl
   rcases hx.1 (.inr hl) with e | hm
   ·omega
   ·exact hm
  ·intro hl
   have := h2.1 x hl
   rcases hx.2 (.inr hl) with e | hm
   ·omega
   ·exact hm
theorem setJ_self (l a : List Int) (h : okR l = true) (ha : ∀ x, x ∈ a ↔ x ∈ l) : setJ a [] = l := by
 have h1 : asc (-1) l = true := by simp [okR] at h; exact h.2
 have hs : asc (-1) (setJ a []) = true := by unfold setJ sel; exact asc_selF 64 0 (-1) (by omega) (by omega)
 refine pair_ext (asc_pair hs).1 (asc_pair h1).1 fun x => ?_
 rw [mem_setJ, ha]
 constructor
 ·rintro ⟨_, _, h | h⟩
  ·exact h
  ·simp at h
 ·intro h
  have := asc_range h1 x h
  exact ⟨this.1, this.2, .inl h⟩
theorem Keys_eq (k : Nat) (l : List Int) (p : Int) (hl : l.length ≤ 1000) (hp : Pos p) (n : Int) (h0 : 1 ≤ n) (h9 : n ≤ 64) (hk : 100 < k) : ∃ L q, mill_Keys k l p n = some (L, q) ∧ Pos q ∧ okR L = true ∧ (∀ x ∈ L, 0 ≤ x ∧ x < n) ∧ L.length ≤ 64 := by
 unfold mill_Keys
 obtain ⟨L, q, e, hq, hs, hr, hlen⟩ := Some_eq k l p n hl hp (by omega) (by omega) (by omega)
 rw [e, bnd2_some]
 by_cases hz : (L.length : Int) = 0
 ·rw [if_pos hz]
  obtain ⟨a, q2, e2, hq2, ha⟩ := Next_eq k l q n hl hq
  have ha := ha h0 (by omega)
  rw [e2, bnd2_some]
  refine ⟨[a], q2, rfl, hq2, ?_, (fun x hx => by simp at hx; omega), by simp⟩
  simp [okR, asc]
  omega
 ·rw [if_neg hz]
  refine ⟨L, q, rfl, hq, ?_, hr, by omega⟩
  have : L ≠ [] := by rintro rfl; simp at hz
  unfold okR
  rw [pair_asc hs (fun x hx => by have := hr x hx; omega)]
  simp [this]
theorem drawF_all (l nums : List Int) (s : Int) (ho : okR l = true) (h1 : 1 ≤ s) (h9 : s ≤ 9) (hn : nums.length = 9) (hx : ∀ x ∈ nums, 0 ≤ x) : drawF l nums s = (drawn l (nums.take (cnt l s).toNat), 0) := by
 unfold drawF
 have hc : cnt l s ≤ 9 := by unfold cnt; split <;> omega
 rw [if_neg (by simp [ho]), if_neg (by omega), if_neg (by omega), if_neg (by omega), drawL_eq _ _ _ (fun x h => hx x (List.mem_of_mem_take h))]
 simp
end Go.TF
