/- Plain laws: lists of keys and of edges, and what the checks of graphs say. -/
import Derived.Test.YtmiimcogppdepaaHaPmade
set_option linter.unusedVariables false
set_option linter.unusedSimpArgs false
namespace Go.TF
open Go Go.Abs
theorem sc64 (i : Nat) (h : i < 9223372036854775807) : IntKind.wrap .i64 ((i : Int) + 1) = ((i + 1 : Nat) : Int) := by rw [w64 (by omega) (by omega)]; omega
theorem pr64 (i : Nat) (h : i < 9223372036854775806) : IntKind.wrap .i64 (((i + 1 : Nat) : Int) - 1) = (i : Int) := by rw [w64 (by omega) (by omega)]; omega
theorem rHas_loop (k : Nat) (l : List Int) (x : Int) (h9 : l.length ≤ 1000000) : ∀ (m i n : Nat), i + m = l.length → m < n → ref11_Has.L1 k l x n (i : Int) = some (decide (x ∈ l.drop i))
 | 0, i, n + 1, h, _ => by rw [ref11_Has.L1, if_neg (by omega), List.drop_eq_nil_of_le (by omega)]; rfl
 | m + 1, i, n + 1, h, hn => by
  have hi : i < l.length := by omega
  rw [ref11_Has.L1, if_pos (by omega), idx_pos hi, List.drop_eq_getElem_cons hi]
  by_cases e : l[i] = x
  ·rw [if_pos e]; simp [-List.getElem_cons_drop, e]
  ·rw [if_neg e, sc64 i (by omega), rHas_loop k l x h9 m (i + 1) n (by omega) (by omega)]
   have e' : ¬ x = l[i] := fun q => e q.symm
   simp [-List.getElem_cons_drop, e']
theorem rHas_eq (k : Nat) (l : List Int) (x : Int) (hk : l.length < k) (h9 : l.length ≤ 1000000) : ref11_Has k l x = some (decide (x ∈ l)) := rHas_loop k l x h9 l.length 0 k (by omega) hk
theorem sIndex_loop (k : Nat) (l : List Int) (x : Int) (h9 : l.length ≤ 1000000) : ∀ (m i n : Nat), i + m = l.length → m < n → ∃ r, slices_Index_int_int.L1 k l x n (i : Int) = some r ∧ (0 ≤ r ↔ x ∈ l.drop i)
 | 0, i, n + 1, h, _ => by rw [slices_Index_int_int.L1, if_neg (by omega), List.drop_eq_nil_of_le (by omega)]; exact ⟨_, rfl, by simp⟩
 | m + 1, i, n + 1, h, hn => by
  have hi : i < l.length := by omega
  rw [slices_Index_int_int.L1, if_pos (by omega), idx_pos hi, List.drop_eq_getElem_cons hi]
  by_cases e : x = l[i]
  ·rw [if_pos e]; exact ⟨_, rfl, by simp [-List.getElem_cons_drop, e]⟩
  ·rw [if_neg e, sc64 i (by omega)]
   obtain ⟨r, h1, h2⟩ := sIndex_loop k l x h9 m (i + 1) n (by omega) (by omega)
   exact ⟨r, h1, by rw [h2]; simp [-List.getElem_cons_drop, e]⟩
theorem sContains_eq (k : Nat) (l : List Int) (x : Int) (hk : l.length < k) (h9 : l.length ≤ 1000000) : slices_Contains_int_int k l x = some (decide (x ∈ l)) := by
 unfold slices_Contains_int_int slices_Index_int_int
 obtain ⟨r, h1, h2⟩ := sIndex_loop k l x h9 l.length 0 k (by omega) hk
 rw [show (0 : Int) = ((0 : Nat) : Int) from rfl, h1, bnd1_some]
 simp only [List.drop_zero] at h2
 simp [← h2]
def prv {α : Type} (l : List α) : Nat → Option α
 | 0 => none
 | i + 1 => l[i]?
theorem prv_s {α : Type} {l : List α} {i : Nat} (h : i < l.length) : prv l (i + 1) = some l[i] := List.getElem?_eq_getElem h
def loI : Option Int → Int → Bool
 | none, _ => true
 | some y, x => decide (y < x)
def setF (N : Int) : Option Int → List Int → Bool
 | _, [] => true
 | p, x :: l => decide (0 ≤ x) && decide (x < N) && loI p x && setF N (some x) l
theorem rSet_loop (k : Nat) (l : List Int) (N : Int) (h9 : l.length ≤ 1000000) : ∀ (m i n : Nat), i + m = l.length → m < n → ref11_Set.L1 k l N n (i : Int) = some (setF N (prv l i) (l.drop i))
 | 0, i, n + 1, h, _ => by rw [ref11_Set.L1, if_neg (by omega), List.drop_eq_nil_of_le (by omega)]; rfl
 | m + 1, i, n + 1, h, hn => by
  have hi : i < l.length := by omega
  rw [ref11_Set.L1, if_pos (by omega), idx_pos hi, List.drop_eq_getElem_cons hi, setF]
  by_cases h1 : l[i] < 0
  ·rw [if_pos h1]; have : ¬ 0 ≤ l[i] := by omega
   simp [this]
  rw [if_neg h1]
  by_cases h2 : N ≤ l[i]
  ·rw [if_pos h2]; have : ¬ l[i] < N := by omega
   simp [this]
  rw [if_neg h2]
  have a1 : 0 ≤ l[i] := by omega
  have a2 : l[i] < N := by omega
  have ih := rSet_loop k l N h9 m (i + 1) n (by omega) (by omega)
  rw [prv_s hi] at ih
  unfold ref11_Set.J2
  simp only [sc64 i (by omega), ih]
  cases i with
  | zero => rw [if_neg (by omega)]; simp [prv, loI, a1, a2]
  | succ j =>
   rw [if_pos (by omega), pr64 j (by omega), idx_pos (by omega : j < l.length), prv_s (by omega)]
   by_cases h3 : l[j + 1] ≤ l[j]
   ·rw [if_pos h3]; have : ¬ l[j] < l[j + 1] := by omega
    simp [loI, this]
   ·rw [if_neg h3]; have : l[j] < l[j + 1] := by omega
    simp [loI, this, a1, a2]
theorem rSet_eq (k : Nat) (l : List Int) (N : Int) (hk : l.length < k) (h9 : l.length ≤ 1000000) : ref11_Set k l N = some (setF N none l) := rSet_loop k l N h9 l.length 0 k (by omega) hk
theorem rise_loop (k : Nat) (l : List Int) (N : Int) (h9 : l.length ≤ 1000000) : ∀ (m i n : Nat), i + m = l.length → m < n → lists_Rising.L1 k l 0 (N - 1) n (i : Int) = some (setF N (prv l i) (l.drop i))
 | 0, i, n + 1, h, _ => by rw [lists_Rising.L1, if_neg (by omega), List.drop_eq_nil_of_le (by omega)]; rfl
 | m + 1, i, n + 1, h, hn => by
  have hi : i < l.length := by omega
  rw [lists_Rising.L1, if_pos (by omega), idx_pos hi, List.drop_eq_getElem_cons hi, setF]
  by_cases h1 : l[i] < 0
  ·rw [if_pos h1]; have : ¬ 0 ≤ l[i] := by omega
   simp [this]
  rw [if_neg h1]
  by_cases h2 : N - 1 < l[i]
  ·rw [if_pos h2]; have : ¬ l[i] < N := by omega
   simp [this]
  rw [if_neg h2]
  have a1 : 0 ≤ l[i] := by omega
  have a2 : l[i] < N := by omega
  have ih := rise_loop k l N h9 m (i + 1) n (by omega) (by omega)
  rw [prv_s hi] at ih
  unfold lists_Rising.J2
  simp only [sc64 i (by omega), ih]
  cases i with
  | zero => rw [if_neg (by omega)]; simp [prv, loI, a1, a2]
  | succ j =>
   rw [if_pos (by omega), pr64 j (by omega), idx_pos (by omega : j < l.length), prv_s (by omega)]
   by_cases h3 : l[j + 1] ≤ l[j]
   ·rw [if_pos h3]; have : ¬ l[j] < l[j + 1] := by omega
    simp [loI, this]
   ·rw [if_neg h3]; have : l[j] < l[j + 1] := by omega
    simp [loI, this, a1, a2]
theorem rise_eq (k : Nat) (l : List Int) (N : Int) (hk : l.length < k) (h9 : l.length ≤ 1000000) (hN : -1000000 ≤ N ∧ N ≤ 1000000) : lists_Rising k l 0 (IntKind.wrap .i64 (N - 1)) = some (setF N none l) := by
 rw [w64 (by omega) (by omega)]; exact rise_loop k l N h9 l.length 0 k (by omega) hk
theorem setF_iff' (N : Int) : ∀ (l : List Int) (p : Option Int), setF N p l = true ↔ (∀ x ∈ l, 0 ≤ x ∧ x < N) ∧ l.Pairwise (· < ·) ∧ (∀ q, p = some q → ∀ x ∈ l, q < x)
 | [], p => by simp [setF]
 | x :: l, p => by
  rw [setF]
  simp only [Bool.and_eq_true, decide_eq_true_eq, setF_iff' N l (some x), List.mem_cons, List.pairwise_cons]
  constructor
  ·rintro ⟨⟨⟨h1, h2⟩, h3⟩, h4, h5, h6⟩
   refine ⟨fun y hy => ?_, ⟨fun y hy => h6 x rfl y hy, h5⟩, fun q hq y hy => ?_⟩
   ·rcases hy with rfl | hy
    ·exact ⟨h1, h2⟩
    ·exact h4 y hy
   ·subst hq
    simp only [loI, decide_eq_true_eq] at h3
    rcases hy with rfl | hy
    ·exact h3
    ·have := h6 x rfl y hy; omega
  ·rintro ⟨h1, ⟨h2, h3⟩, h4⟩
   refine ⟨⟨h1 x (.inl rfl), ?_⟩, fun y hy => h1 y (.inr hy), h3, fun q hq y hy => ?_⟩
   ·cases p with
    | none => rfl
    | some q => simp only [loI, decide_eq_true_eq]; exact h4 q rfl x (.inl rfl)
   ·simp only [Option.some.injEq] at hq; subst hq; exact h2 y hy
theorem setF_iff (N : Int) (l : List Int) : setF N none l = true ↔ (∀ x ∈ l, 0 ≤ x ∧ x < N) ∧ l.Pairwise (· < ·) := by
 rw [setF_iff']; simp
theorem asc_len : ∀ (l : List Int) (a N : Int), (∀ x ∈ l, a ≤ x ∧ x < N) → l.Pairwise (· < ·) → a ≤ N → (l.length : Int) ≤ N - a
 | [], a, N, _, _, h => by simp; omega
 | x :: l, a, N, h1, h2, h => by
  rw [List.pairwise_cons] at h2
  have hx := h1 x (by simp)
  have := asc_len l (x + 1) N (fun y hy => ⟨by have := h2.1 y hy; omega, (h1 y (by simp [hy])).2⟩) h2.2 (by omega)
  simp only [List.length_cons]; omega
def bef (a b : api_Edge) : Bool := decide (a.From < b.From ∨ (a.From = b.From ∧ a.To < b.To))
def okE (N : Int) (g : List Int) (e : api_Edge) : Bool := decide (0 ≤ e.From ∧ e.From < N ∧ 0 ≤ e.To ∧ e.To < N ∧ e.From ≠ e.To ∧ 1 ≤ e.Level ∧ e.Level ≤ 3 ∧ e.From ∉ g ∧ e.To ∉ g)
def loE : Option api_Edge → api_Edge → Bool
 | none, _ => true
 | some q, e => bef q e
def edF (N : Int) (g : List Int) : Option api_Edge → List api_Edge → Bool
 | _, [] => true
 | p, e :: l => okE N g e && loE p e && edF N g (some e) l
def okG (N : Int) (E : List api_Edge) (g : List Int) : Bool := decide (0 ≤ N ∧ N ≤ 64 ∧ E.length ≤ 500) && (setF N none g && edF N g none E)
theorem before_eq (k : Nat) (a b c d e f : Int) : ref11_before k a b c d e f = some (decide (a < d ∨ (a = d ∧ b < e))) := by
 unfold ref11_before
 by_cases h : a < d
 ·rw [if_pos h]; simp [h]
 ·rw [if_neg h]
  by_cases h2 : a = d
  ·rw [if_pos h2]; simp [h2]
  ·rw [if_neg h2]; simp [h, h2]
theorem rCheck_loop (k : Nat) (N : Int) (E : List api_Edge) (g : List Int) (hg : g.length < k) (hg9 : g.length ≤ 1000000) (h9 : E.length ≤ 1000000) : ∀ (m i n : Nat), i + m = E.length → m < n → ref11_Check.L1 k N E g n (i : Int) = some (if edF N g (prv E i) (E.drop i) then 0 else 14)
 | 0, i, n + 1, h, _ => by rw [ref11_Check.L1, if_neg (by omega), List.drop_eq_nil_of_le (by omega)]; rfl
 | m + 1, i, n + 1, h, hn => by
  have hi : i < E.length := by omega
  have ih := rCheck_loop k N E g hg hg9 h9 m (i + 1) n (by omega) (by omega)
  rw [prv_s hi] at ih
  rw [ref11_Check.L1, if_pos (by omega), idx_pos hi, List.drop_eq_getElem_cons hi, edF]
  unfold ref11_Check.J2
  simp only [rHas_eq k g _ hg hg9, bnd1_some, sc64 i (by omega), ih]
  generalize edF N g (some E[i]) (E.drop (i + 1)) = R
  by_cases a1 : E[i].From < 0
  ·rw [if_pos a1]; have : okE N g E[i] = false := by unfold okE; rw [decide_eq_false_iff_not]; omega
   simp [this]
  rw [if_neg a1]
  by_cases a2 : N ≤ E[i].From
  ·rw [if_pos a2]; have : okE N g E[i] = false := by unfold okE; rw [decide_eq_false_iff_not]; omega
   simp [this]
  rw [if_neg a2]
  by_cases a3 : E[i].To < 0
  ·rw [if_pos a3]; have : okE N g E[i] = false := by unfold okE; rw [decide_eq_false_iff_not]; omega
   simp [this]
  rw [if_neg a3]
  by_cases a4 : N ≤ E[i].To
  ·rw [if_pos a4]; have : okE N g E[i] = false := by unfold okE; rw [decide_eq_false_iff_not]; omega
   simp [this]
  rw [if_neg a4]
  by_cases a5 : E[i].From = E[i].To
  ·rw [if_pos a5]; have : okE N g E[i] = false := by unfold okE; rw [decide_eq_false_iff_not]; omega
   simp [this]
  rw [if_neg a5]
  by_cases a6 : E[i].Level < 1
  ·rw [if_pos a6]; have : okE N g E[i] = false := by unfold okE; rw [decide_eq_false_iff_not]; omega
   simp [this]
  rw [if_neg a6]
  by_cases a7 : 3 < E[i].Level
  ·rw [if_pos a7]; have : okE N g E[i] = false := by unfold okE; rw [decide_eq_false_iff_not]; omega
   simp [this]
  rw [if_neg a7]
  have ok : okE N g E[i] = (!decide (E[i].From ∈ g) && !decide (E[i].To ∈ g)) := by
   unfold okE
   by_cases b1 : E[i].From ∈ g <;> by_cases b2 : E[i].To ∈ g <;> simp [b1, b2] <;> omega
  rw [ok]
  cases i with
  | zero =>
   rw [if_neg (by omega)]
   by_cases b1 : E[0].From ∈ g <;> by_cases b2 : E[0].To ∈ g <;> simp [b1, b2, prv, loE]
  | succ j =>
   rw [if_pos (by omega), pr64 j (by omega), idx_pos (by omega : j < E.length), prv_s (by omega), before_eq, bnd1_some]
   rw [show loE (some E[j]) E[j + 1] = bef E[j] E[j + 1] from rfl]
   have hb : decide (E[j].From < E[j + 1].From ∨ (E[j].From = E[j + 1].From ∧ E[j].To < E[j + 1].To)) = bef E[j] E[j + 1] := rfl
   rw [hb]
   by_cases b0 : bef E[j] E[j + 1] = true
   ·by_cases b1 : E[j + 1].From ∈ g <;> by_cases b2 : E[j + 1].To ∈ g <;> simp [b0, b1, b2]
   ·simp only [Bool.not_eq_true] at b0
    simp [b0]
theorem rCheck_eq (k : Nat) (N : Int) (E : List api_Edge) (g : List Int) (hk : 500 < k) (hg : g.length < k) (hg9 : g.length ≤ 1000000) : ref11_Check k N E g = some (if okG N E g then 0 else 14) := by
 unfold ref11_Check okG
 by_cases h1 : N < 0
 ·rw [if_pos h1]; have : ¬ (0 ≤ N ∧ N ≤ 64 ∧ E.length ≤ 500) := by omega
  simp [this]
 rw [if_neg h1]
 by_cases h2 : 64 < N
 ·rw [if_pos h2]; have : ¬ (0 ≤ N ∧ N ≤ 64 ∧ E.length ≤ 500) := by omega
  simp [this]
 rw [if_neg h2]
 by_cases h3 : 500 < (E.length : Int)
 ·rw [if_pos h3]; have : ¬ (0 ≤ N ∧ N ≤ 64 ∧ E.length ≤ 500) := by omega
  simp [this]
 rw [if_neg h3, rSet_eq k g N hg hg9, bnd1_some]
 have : (0 ≤ N ∧ N ≤ 64 ∧ E.length ≤ 500) := by omega
 by_cases h4 : setF N none g = true
 ·rw [if_neg (by simp [h4])]
  have := rCheck_loop k N E g hg hg9 (by omega) E.length 0 k (by omega) (by omega)
  rw [show (0 : Int) = ((0 : Nat) : Int) from rfl, this]
  simp only [prv, List.drop_zero, h4, Bool.true_and]
  have q : (0 ≤ N ∧ N ≤ 64 ∧ E.length ≤ 500) := by omega
  simp [q]
 ·rw [if_pos (by simpa using h4)]
  simp only [Bool.not_eq_true] at h4
  simp [h4]
theorem fits_eq (k : Nat) (N : Int) (E : List api_Edge) (g : List Int) (f t l : Int) (hg : g.length < k) (hg9 : g.length ≤ 1000000) (hN : -1000000 ≤ N ∧ N ≤ 1000000) : graph_fits k N E g f t l = some (decide (0 ≤ f ∧ f < N ∧ 0 ≤ t ∧ t < N ∧ f ≠ t ∧ f ∉ g ∧ t ∉ g)) := by
 have hin : ∀ x : Int, lists_In k x 0 (IntKind.wrap .i64 (N - 1)) = some (decide (0 ≤ x ∧ x < N)) := by
  intro x
  rw [w64 (by omega) (by omega)]
  unfold lists_In
  by_cases h : 0 ≤ x
  ·rw [if_pos h]
   by_cases h2 : x < N
   ·have : x ≤ N - 1 := by omega
    simp [h, h2, this]
   ·have : ¬ x ≤ N - 1 := by omega
    simp [h, h2, this]
  ·rw [if_neg h]; simp [h]
 unfold graph_fits
 simp only [hin, bnd1_some, sContains_eq k g _ hg hg9]
 by_cases h1 : 0 ≤ f ∧ f < N
 ·by_cases h2 : 0 ≤ t ∧ t < N
  ·by_cases h3 : f = t
   ·simp [h1, h2, h3]
   ·by_cases h4 : f ∈ g <;> by_cases h5 : t ∈ g <;> simp [h1, h2, h3, h4, h5]
  ·have : ¬ (0 ≤ f ∧ f < N ∧ 0 ≤ t ∧ t < N ∧ f ≠ t ∧ f ∉ g ∧ t ∉ g) := by omega
   rw [decide_eq_false this]; simp [h1, h2]
 ·have : ¬ (0 ≤ f ∧ f < N ∧ 0 ≤ t ∧ t < N ∧ f ≠ t ∧ f ∉ g ∧ t ∉ g) := by omega
  rw [decide_eq_false this]; simp [h1]
theorem cmpI_eq (k : Nat) (a b : Int) : cmp_Compare_int k a b = some (if a < b then -1 else if b < a then 1 else 0) := by
 unfold cmp_Compare_int cmp_isNaN_int
 simp
 split
 ·rfl
 ·split <;> rfl
theorem or_eq (k : Nat) (a b : Int) (hk : 2 < k) : cmp_Or_int k [a, b] = some (if a ≠ 0 then a else b) := by
 obtain ⟨q, rfl⟩ : ∃ q, k = q + 3 := ⟨k - 3, by omega⟩
 unfold cmp_Or_int
 rw [cmp_Or_int.L1, if_pos (by simp), show (0 : Int) = ((0 : Nat) : Int) from rfl, idx_pos (by simp), sc64 0 (by omega)]
 by_cases h : a = 0
 ·rw [show (if a ≠ ((0 : Nat) : Int) then a else b) = b by simp [h], if_neg (by simpa using h), cmp_Or_int.L1, if_pos (by simp), idx_pos (by simp), sc64 1 (by omega)]
  by_cases h2 : b = 0
  ·rw [if_neg (by simpa using h2), cmp_Or_int.L1, if_neg (by simp)]; simp [h2]
  ·rw [if_pos (by simpa using h2)]; simp
 ·rw [show (if a ≠ ((0 : Nat) : Int) then a else b) = a by simp [h], if_pos (by simpa using h)]; simp
theorem compare_eq (k : Nat) (a b : api_Edge) (hk : 2 < k) : ∃ r, graph_compare k a.From a.To a.Level b.From b.To b.Level = some r ∧ (0 ≤ r ↔ bef a b = false) := by
 unfold graph_compare
 simp only [cmpI_eq, bnd1_some, or_eq k _ _ hk]
 refine ⟨_, rfl, ?_⟩
 unfold bef
 rw [decide_eq_false_iff_not]
 by_cases h1 : a.From < b.From
 ·simp [h1]
 ·by_cases h2 : b.From < a.From
  ·simp [h1, h2]; omega
  ·have h3 : a.From = b.From := by omega
   by_cases h4 : a.To < b.To
   ·simp [h3, h4]
   ·by_cases h5 : b.To < a.To
    ·simp [h3, h4, h5]
    ·simp [h3, h4, h5]
theorem gCheck_loop (k : Nat) (N : Int) (E : List api_Edge) (g : List Int) (hk : 2 < k) (hg : g.length < k) (hg9 : g.length ≤ 1000000) (h9 : E.length ≤ 1000000) (hN : -1000000 ≤ N ∧ N ≤ 1000000) : ∀ (m i n : Nat), i + m = E.length → m < n → graph_Check.L1 k N E g n (i : Int) = some (if edF N g (prv E i) (E.drop i) then 0 else 14)
 | 0, i, n + 1, h, _ => by rw [graph_Check.L1, if_neg (by omega), List.drop_eq_nil_of_le (by omega)]; rfl
 | m + 1, i, n + 1, h, hn => by
  have hi : i < E.length := by omega
  have ih := gCheck_loop k N E g hk hg hg9 h9 hN m (i + 1) n (by omega) (by omega)
  rw [prv_s hi] at ih
  rw [graph_Check.L1, if_pos (by omega), idx_pos hi, List.drop_eq_getElem_cons hi, edF, fits_eq k N E g _ _ _ hg hg9 hN, bnd1_some]
  unfold graph_Check.J2 lists_In
  simp only [sc64 i (by omega), ih]
  generalize edF N g (some E[i]) (E.drop (i + 1)) = R
  by_cases a1 : (0 ≤ E[i].From ∧ E[i].From < N ∧ 0 ≤ E[i].To ∧ E[i].To < N ∧ E[i].From ≠ E[i].To ∧ E[i].From ∉ g ∧ E[i].To ∉ g)
  ·rw [if_neg (by simp [a1])]
   by_cases a2 : 1 ≤ E[i].Level
   ·rw [if_pos a2, bnd1_some]
    by_cases a3 : E[i].Level ≤ 3
    ·rw [if_neg (by simp [a3])]
     have ok : okE N g E[i] = true := by
      unfold okE; rw [decide_eq_true_eq]
      obtain ⟨c1, c2, c3, c4, c5, c6, c7⟩ := a1
      exact ⟨c1, c2, c3, c4, c5, a2, a3, c6, c7⟩
     rw [ok]
     cases i with
     | zero => rw [if_neg (by omega)]; simp [prv, loE]
     | succ j =>
      rw [if_pos (by omega), pr64 j (by omega), idx_pos (by omega : j < E.length), prv_s (by omega)]
      obtain ⟨r, e1, e2⟩ := compare_eq k E[j] E[j + 1] hk
      rw [e1, bnd1_some]
      rw [show loE (some E[j]) E[j + 1] = bef E[j] E[j + 1] from rfl]
      by_cases b : bef E[j] E[j + 1] = true
      ·rw [if_neg (by rw [e2, b]; simp)]; simp [b]
      ·simp only [Bool.not_eq_true] at b
       rw [if_pos (e2.2 b)]; simp [b]
    ·rw [if_pos (by simpa using a3)]
     have ok : okE N g E[i] = false := by unfold okE; rw [decide_eq_false_iff_not]; omega
     simp [ok]
   ·rw [if_neg a2, bnd1_some, if_pos (by simp)]
    have ok : okE N g E[i] = false := by unfold okE; rw [decide_eq_false_iff_not]; omega
    simp [ok]
  ·rw [if_pos (by rw [decide_eq_false a1]; rfl)]
   have ok : okE N g E[i] = false := by
    unfold okE; rw [decide_eq_false_iff_not]
    rintro ⟨c1, c2, c3, c4, c5, _, _, c6, c7⟩
    exact a1 ⟨c1, c2, c3, c4, c5, c6, c7⟩
   simp [ok]
theorem gCheck_eq (k : Nat) (N : Int) (E : List api_Edge) (g : List Int) (hk : 500 < k) (hg : g.length < k) (hg9 : g.length ≤ 1000000) : graph_Check k N E g = some (if okG N E g then 0 else 14) := by
 unfold graph_Check okG lists_In
 by_cases h1 : 0 ≤ N
 ·rw [if_pos h1, bnd1_some]
  by_cases h2 : N ≤ 64
  ·rw [if_neg (by simp [h2])]
   by_cases h3 : 500 < (E.length : Int)
   ·rw [if_pos h3]; have : ¬ (0 ≤ N ∧ N ≤ 64 ∧ E.length ≤ 500) := by omega
    simp [this]
   rw [if_neg h3, rise_eq k g N hg hg9 (by omega), bnd1_some]
   by_cases h4 : setF N none g = true
   ·rw [if_neg (by simp [h4])]
    have := gCheck_loop k N E g (by omega) hg hg9 (by omega) (by omega) E.length 0 k (by omega) (by omega)
    rw [show (0 : Int) = ((0 : Nat) : Int) from rfl, this]
    simp only [prv, List.drop_zero, h4, Bool.true_and]
    have q : (0 ≤ N ∧ N ≤ 64 ∧ E.length ≤ 500) := by omega
    simp [q]
   ·rw [if_pos (by simpa using h4)]
    simp only [Bool.not_eq_true] at h4
    simp [h4]
  ·rw [if_pos (by simpa using h2)]; have : ¬ (0 ≤ N ∧ N ≤ 64 ∧ E.length ≤ 500) := by omega
   simp [this]
 ·rw [if_neg h1, bnd1_some, if_pos (by simp)]; have : ¬ (0 ≤ N ∧ N ≤ 64 ∧ E.length ≤ 500) := by omega
  simp [this]
theorem bef_trans {a b c : api_Edge} (h1 : bef a b = true) (h2 : bef b c = true) : bef a c = true := by
 unfold bef at *; rw [decide_eq_true_eq] at *; omega
theorem edF_iff' (N : Int) (g : List Int) : ∀ (l : List api_Edge) (p : Option api_Edge), edF N g p l = true ↔ (∀ x ∈ l, okE N g x = true) ∧ l.Pairwise (fun a b => bef a b = true) ∧ (∀ q, p = some q → ∀ x ∈ l, bef q x = true)
 | [], p => by simp [edF]
 | x :: l, p => by
  rw [edF]
  simp only [Bool.and_eq_true, edF_iff' N g l (some x), List.mem_cons, List.pairwise_cons]
  constructor
  ·rintro ⟨⟨h1, h3⟩, h4, h5, h6⟩
   refine ⟨fun y hy => ?_, ⟨fun y hy => h6 x rfl y hy, h5⟩, fun q hq y hy => ?_⟩
   ·rcases hy with rfl | hy
    ·exact h1
    ·exact h4 y hy
   ·subst hq
    rcases hy with rfl | hy
    ·exact h3
    ·exact bef_trans h3 (h6 x rfl y hy)
  ·rintro ⟨h1, ⟨h2, h3⟩, h4⟩
   refine ⟨⟨h1 x (.inl rfl), ?_⟩, fun y hy => h1 y (.inr hy), h3, fun q hq y hy => ?_⟩
   ·cases p with
    | none => rfl
    | some q => exact h4 q rfl x (.inl rfl)
   ·simp only [Option.some.injEq] at hq; subst hq; exact h2 y hy
theorem okG_iff (N : Int) (E : List api_Edge) (g : List Int) : okG N E g = true ↔ (0 ≤ N ∧ N ≤ 64 ∧ E.length ≤ 500) ∧ ((∀ x ∈ g, 0 ≤ x ∧ x < N) ∧ g.Pairwise (· < ·)) ∧ (∀ x ∈ E, okE N g x = true) ∧ E.Pairwise (fun a b => bef a b = true) := by
 unfold okG
 rw [Bool.and_eq_true, Bool.and_eq_true, setF_iff, edF_iff', decide_eq_true_eq]; simp
theorem okE_iff (N : Int) (g : List Int) (e : api_Edge) : okE N g e = true ↔ 0 ≤ e.From ∧ e.From < N ∧ 0 ≤ e.To ∧ e.To < N ∧ e.From ≠ e.To ∧ 1 ≤ e.Level ∧ e.Level ≤ 3 ∧ e.From ∉ g ∧ e.To ∉ g := by
 unfold okE; rw [decide_eq_true_eq]
end Go.TF
