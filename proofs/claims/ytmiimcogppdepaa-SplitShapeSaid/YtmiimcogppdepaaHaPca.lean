/- Plain laws: made policies; the laws CapacityRaw and CapacityMade. -/
import Derived.Test.YtmiimcogppdepaaHaPcz
set_option linter.unusedVariables false
set_option linter.unusedSimpArgs false
namespace Go.TF
open Go Go.Abs
theorem Of_eq (k : Nat) (l : List Int) (p : Int) (xs : List Int) (hl : l.length ≤ 1000) (hp : Pos p) (h1 : 1 ≤ xs.length) (h9 : xs.length ≤ 1000) : ∃ a q, made_Dice_Of k l p xs = some (a, q) ∧ Pos q ∧ a ∈ xs := by
 unfold made_Dice_Of
 obtain ⟨a, q, e, hq, ha⟩ := Next_eq k l p (xs.length : Int) hl hp
 have ha := ha (by omega) (by omega)
 obtain ⟨j, rfl⟩ := Int.eq_ofNat_of_zero_le ha.1
 rw [e, bnd2_some, idx_pos (by omega)]
 exact ⟨_, _, rfl, hq, List.getElem_mem _⟩
theorem One_eq (k : Nat) (l : List Int) (p n : Int) (hl : l.length ≤ 1000) (hp : Pos p) : ∃ b q, made_Dice_One k l p n = some (b, q) ∧ Pos q := by
 unfold made_Dice_One
 obtain ⟨a, q, e, hq, ha⟩ := Next_eq k l p n hl hp
 rw [e, bnd2_some]
 exact ⟨_, _, rfl, hq⟩
theorem put_loop (k : Nat) (l : List Int) (x : Int) (h9 : l.length ≤ 1000000) (ha : l.Pairwise (· < ·)) : ∀ (m i n : Nat), i + m = l.length → m < n → (∀ y ∈ l.take i, y < x) →
 ∃ l', ref11_Put.L3 k l x n (i : Int) = some l' ∧ l'.Pairwise (· < ·) ∧ (∀ y, y ∈ l' ↔ y ∈ l ∨ y = x) ∧ l'.length ≤ l.length + 1 := by
 have fin : ∀ i : Nat, i ≤ l.length → (∀ y ∈ l.take i, y < x) → (∀ h : i < l.length, x < l[i]) → ∃ l', ref11_Put.J2 k l x (i : Int) = some l' ∧ l'.Pairwise (· < ·) ∧ (∀ y, y ∈ l' ↔ y ∈ l ∨ y = x) ∧ l'.length ≤ l.length + 1 := by
  intro i hi h1 h2
  unfold ref11_Put.J2
  have hlt : (l.take i).length = i := by rw [List.length_take]; omega
  have hld : (l.drop i).length = l.length - i := List.length_drop
  rw [show ((i : Int)).toNat = i by omega, chk_pos (by omega), chk_pos (by omega), chk_pos (by simp only [List.length_cons, List.length_nil]; omega), chk_pos (by omega), chk_pos (by simp only [List.length_append, List.length_cons, List.length_nil]; omega)]
  have hg : ∀ y ∈ l.drop i, x < y := by
   intro y hy
   have hj : i < l.length := by
    by_cases z : i < l.length
    ·exact z
    ·rw [List.drop_eq_nil_of_le (by omega)] at hy; simp at hy
   have hd := ha.sublist (List.drop_sublist i l)
   rw [List.drop_eq_getElem_cons hj] at hy hd
   rw [List.pairwise_cons] at hd
   have h3 := h2 hj
   rcases List.mem_cons.1 hy with rfl | hy
   ·exact h3
   ·have := hd.1 y hy; omega
  refine ⟨_, rfl, ?_, fun y => ?_, by simp only [List.length_append, List.length_cons, List.length_nil]; omega⟩
  ·rw [List.append_assoc, List.singleton_append, List.pairwise_append, List.pairwise_cons]
   refine ⟨ha.sublist (List.take_sublist i l), ⟨hg, ha.sublist (List.drop_sublist i l)⟩, fun a h3 b h4 => ?_⟩
   have := h1 a h3
   rcases List.mem_cons.1 h4 with rfl | h4
   ·exact this
   ·have := hg b h4; omega
  ·have : y ∈ l ↔ y ∈ l.take i ∨ y ∈ l.drop i := by rw [← List.mem_append, List.take_append_drop]
   rw [List.mem_append, List.mem_append, List.mem_singleton, this]
   constructor
   ·rintro ((h | h) | h)
    ·exact .inl (.inl h)
    ·exact .inr h
    ·exact .inl (.inr h)
   ·rintro ((h | h) | h)
    ·exact .inl (.inl h)
    ·exact .inr h
    ·exact .inl (.inr h)
 intro m
 induction m with
 | zero =>
  intro i n h hn h1
  cases n with
  | zero => omega
  | succ n =>
   rw [ref11_Put.L3, if_neg (by omega)]
   unfold ref11_Put.J1
   rw [if_neg (by omega)]
   exact fin i (by omega) h1 (fun h => by omega)
 | succ m ih =>
  intro i n h hn h1
  cases n with
  | zero => omega
  | succ n =>
   have hi : i < l.length := by omega
   rw [ref11_Put.L3, if_pos (by omega), idx_pos hi]
   by_cases q : l[i] < x
   ·rw [if_pos q, sc64 i (by omega)]
    refine ih (i + 1) n (by omega) (by omega) fun y hy => ?_
    rw [List.take_succ_eq_append_getElem hi, List.mem_append, List.mem_singleton] at hy
    rcases hy with hy | rfl
    ·exact h1 y hy
    ·exact q
   ·rw [if_neg q]
    unfold ref11_Put.J1
    rw [if_pos (by omega), idx_pos hi]
    by_cases q2 : l[i] = x
    ·rw [if_pos q2, chk_pos (by omega)]
     refine ⟨l, rfl, ha, fun y => ⟨.inl, fun h => ?_⟩, by omega⟩
     rcases h with h | rfl
     ·exact h
     ·rw [← q2]; exact List.getElem_mem hi
    ·rw [if_neg q2]
     exact fin i (by omega) h1 (fun _ => by omega)
theorem Put_eq (k : Nat) (l : List Int) (x : Int) (h9 : l.length ≤ 1000000) (hk : l.length < k) (ha : l.Pairwise (· < ·)) : ∃ l', ref11_Put k l x = some l' ∧ l'.Pairwise (· < ·) ∧ (∀ y, y ∈ l' ↔ y ∈ l ∨ y = x) ∧ l'.length ≤ l.length + 1 :=
 put_loop k l x h9 ha l.length 0 k (by omega) hk (by simp)
structure PV (N : Nat) (s t : List Int) (lv : Int) : Prop where
 s0 : s ≠ []
 sl : s.length ≤ 2
 sr : ∀ x ∈ s, 0 ≤ x ∧ x < N
 sa : s.Pairwise (· < ·)
 t0 : 1 ≤ t.length
 t9 : t.length ≤ 4
 tr : ∀ x ∈ t, 1 ≤ x ∧ x ≤ 7
 td : t.Pairwise (fun a b => b ≤ a)
 l1 : 1 ≤ lv
 l3 : lv ≤ 3
theorem pol_loop (l : List Int) (hl : l.length ≤ 1000) (lv : Int) (s : List Int) : ∀ (m n : Nat) (x p : Int) (acc : List Int), m < n → Pos p → 1 ≤ x → x ≤ 7 → (∀ y ∈ acc, x ≤ y ∧ y ≤ 7) → acc.Pairwise (fun a b => b ≤ a) → acc.length + m ≤ 4 →
 ∃ t q, made_Dice_Policy.L2 1000 l lv s n x (m : Int) p acc = some (s, t, lv, q) ∧ Pos q ∧ (∀ y ∈ t, 1 ≤ y ∧ y ≤ 7) ∧ t.Pairwise (fun a b => b ≤ a) ∧ t.length = acc.length + m
 | 0, n + 1, x, p, acc, _, hp, x1, x2, h1, h2, h3 => by
  rw [made_Dice_Policy.L2, if_neg (by omega)]
  exact ⟨acc, p, rfl, hp, fun y hy => by have := h1 y hy; omega, h2, rfl⟩
 | m + 1, n + 1, x, p, acc, hn, hp, x1, x2, h1, h2, h3 => by
  rw [made_Dice_Policy.L2, if_pos (by omega), chk_pos (by simp only [List.length_cons, List.length_nil]; omega)]
  obtain ⟨a, q, e, hq, ha⟩ := Next_eq 1000 l p 3 hl hp
  have ha := ha (by omega) (by omega)
  rw [e, bnd2_some, let1_eq, w64 (by omega) (by omega), pr64 m (by omega)]
  have key : ∀ y : Int, 1 ≤ y → y ≤ x → ∃ t q', made_Dice_Policy.L2 1000 l lv s n y (m : Int) q (acc ++ [x]) = some (s, t, lv, q') ∧ Pos q' ∧ (∀ y ∈ t, 1 ≤ y ∧ y ≤ 7) ∧ t.Pairwise (fun a b => b ≤ a) ∧ t.length = acc.length + (m + 1) := by
   intro y y1 y2
   obtain ⟨t, q', e1, e2, e3, e4, e5⟩ := pol_loop l hl lv s m n y q (acc ++ [x]) (by omega) hq y1 (by omega) (fun z hz => by
    rcases List.mem_append.1 hz with hz | hz
    ·have := h1 z hz; omega
    ·simp at hz; omega) (by
    rw [List.pairwise_append]
    exact ⟨h2, List.pairwise_singleton .., fun a ha b hb => by simp at hb; have := h1 a ha; omega⟩) (by simp only [List.length_append, List.length_cons, List.length_nil]; omega)
   exact ⟨t, q', e1, e2, e3, e4, by rw [e5]; simp only [List.length_append, List.length_cons, List.length_nil]; omega⟩
  by_cases c : 1 < x - a
  ·rw [if_pos c]; exact key _ (by omega) (by omega)
  ·rw [if_neg c]; exact key 1 (by omega) (by omega)
theorem Policy_eq (l : List Int) (p : Int) (N : Nat) (E : List api_Edge) (g : List Int) (hl : l.length ≤ 1000) (hp : Pos p) (hN : 1 ≤ N) (hN9 : N ≤ 100) :
 ∃ s t lv q, made_Dice_Policy 1000 l p (N : Int) E g = some (s, t, lv, q) ∧ Pos q ∧ PV N s t lv := by
 unfold made_Dice_Policy
 obtain ⟨a, q, e, hq, ha⟩ := Next_eq 1000 l p (N : Int) hl hp
 have ha := ha (by omega) (by omega)
 obtain ⟨lv, q2, e2, hq2, hlv⟩ := Of_eq 1000 l q [1, 1, 2, 3] hl hq (by simp) (by simp)
 obtain ⟨b, q3, e3, hq3⟩ := One_eq 1000 l q2 3 hl hq2
 rw [e, bnd2_some, e2, bnd2_some, e3, bnd2_some]
 have hlv' : 1 ≤ lv ∧ lv ≤ 3 := by simp at hlv; omega
 have fin : ∀ (p2 : Int) (s : List Int), Pos p2 → s ≠ [] → s.length ≤ 2 → (∀ x ∈ s, 0 ≤ x ∧ x < N) → s.Pairwise (· < ·) → ∃ s' t lv' q, made_Dice_Policy.J1 1000 l lv p2 s = some (s', t, lv', q) ∧ Pos q ∧ PV N s' t lv' := by
  intro p2 s hp2 s0 sl sr sa
  unfold made_Dice_Policy.J1
  obtain ⟨x, r, f, hr, hx⟩ := Of_eq 1000 l p2 [3, 2, 1, 6, 0] hl hp2 (by simp) (by simp)
  obtain ⟨m, r2, f2, hr2, hm⟩ := Next_eq 1000 l r 4 hl hr
  have hm := hm (by omega) (by omega)
  have hx' : 0 ≤ x ∧ x ≤ 6 := by simp at hx; omega
  obtain ⟨m, rfl⟩ := Int.eq_ofNat_of_zero_le hm.1
  rw [f, bnd2_some, f2, bnd2_some, w64 (by omega) (by omega), w64 (by omega) (by omega), show (1 : Int) + (m : Int) = ((m + 1 : Nat) : Int) by omega]
  obtain ⟨t, q', e1, e2, e3, e4, e5⟩ := pol_loop l hl lv s (m + 1) 1000 (1 + x) r2 [] (by omega) hr2 (by omega) (by omega) (by simp) .nil (by simp only [List.length_nil]; omega)
  rw [List.length_nil] at e5
  exact ⟨s, t, lv, q', e1, e2, s0, sl, sr, sa, by omega, by omega, e3, e4, hlv'.1, hlv'.2⟩
 split
 ·obtain ⟨c, q4, e4, hq4, hc⟩ := Next_eq 1000 l q3 (N : Int) hl hq3
  have hc := hc (by omega) (by omega)
  obtain ⟨s, e5, s1, s2, s3⟩ := Put_eq 1000 [a] c (by show 1 ≤ 1000000; omega) (by show 1 < 1000; omega) (List.pairwise_singleton ..)
  rw [e4, bnd2_some, e5, bnd1_some]
  obtain ⟨s', t, lv', q5, f1, f2, f3⟩ := fin q4 s hq4 (fun h => by have := (s2 a).2 (.inl (by simp)); rw [h] at this; simp at this) (by simpa using s3) (fun x hx => by
   rcases (s2 x).1 hx with h | h
   ·simp at h; omega
   ·omega) s1
  exact ⟨_, _, _, _, f1, f2, f3⟩
 ·obtain ⟨s', t, lv', q5, f1, f2, f3⟩ := fin q3 [a] hq3 (by simp) (by simp) (fun x hx => by simp at hx; omega) (List.pairwise_singleton ..)
  exact ⟨_, _, _, _, f1, f2, f3⟩
theorem PV.pol {N : Nat} {s t : List Int} {lv : Int} (h : PV N s t lv) : polF N s t lv = true := by
 unfold polF
 rw [Bool.and_eq_true, Bool.and_eq_true, decide_eq_true_eq, setF_iff, tbF_iff']
 refine ⟨⟨fun e => h.s0 (List.length_eq_zero_iff.1 e), h.t0, by have := h.t9; omega, h.l1, h.l3⟩, ⟨h.sr, h.sa⟩, fun x hx => by have := h.tr x hx; omega, h.td, fun q hq => by cases hq⟩
end Go.TF
