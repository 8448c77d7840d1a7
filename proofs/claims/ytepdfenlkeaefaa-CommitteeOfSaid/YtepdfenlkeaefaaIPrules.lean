/- Plain laws of layer 24: rules. -/
import Derived.Test.YtepdfenlkeaefaaIPros
import Derived.Test.YtepdfenlkeaefaaIPmade
set_option linter.unusedVariables false
set_option linter.unusedSimpArgs false
namespace Go.TF
open Go Go.Abs
def relP (rel : Int → Int → Bool) : Option Int → Int → Bool
 | none, _ => true
 | some q, x => rel q x
@[simp] theorem relP_none (rel : Int → Int → Bool) (x : Int) : relP rel none x = true := rfl
@[simp] theorem relP_some (rel : Int → Int → Bool) (q x : Int) : relP rel (some q) x = rel q x := rfl
def scanB (ok : Int → Bool) (rel : Int → Int → Bool) (p : Option Int) (l : List Int) : Bool :=
 match l with
 | [] => true
 | x :: l => ok x && relP rel p x && scanB ok rel (some x) l
theorem scan_cons (ok : Int → Bool) (rel : Int → Int → Bool) (p : Option Int) (x : Int) (l : List Int) : scanB ok rel p (x :: l) = (ok x && relP rel p x && scanB ok rel (some x) l) := rfl
def prv (l : List Int) (i : Nat) : Option Int := if i = 0 then none else l[i - 1]?
theorem prv_succ {l : List Int} {i : Nat} (h : i < l.length) : prv l (i + 1) = some l[i] := by simp [prv, h]
theorem pred64 (i : Nat) (h0 : 0 < i) (h : i < 9223372036854775807) : IntKind.wrap .i64 ((i : Int) - 1) = ((i - 1 : Nat) : Int) := by rw [w64 (by omega) (by omega)]; omega
theorem itf {α : Type} (x y : α) : (if (!false) = true then x else y) = x := rfl
theorem itt {α : Type} (x y : α) : (if (!true) = true then x else y) = y := rfl
theorem scan_congr {ok ok' : Int → Bool} {rel rel' : Int → Int → Bool} (h : ∀ x, ok x = ok' x) (h2 : ∀ x y, rel x y = rel' x y) : scanB ok rel = scanB ok' rel' := by
 rw [show ok = ok' from funext h, show rel = rel' from funext fun x => funext fun y => h2 x y]
theorem rising_loop (k : Nat) (l : List Int) (lo hi : Int) (h9 : l.length ≤ 9223372036854775807) : ∀ (m i n : Nat), i + m = l.length → m < n →
 lists_Rising.L1 k l lo hi n (i : Int) = some (scanB (fun x => decide (lo ≤ x) && decide (x ≤ hi)) (fun q x => decide (q < x)) (prv l i) (l.drop i))
 | 0, i, n + 1, h, _ => by rw [lists_Rising.L1, if_neg (by omega), List.drop_of_length_le (by omega)]; rfl
 | m + 1, i, n + 1, h, hn => by
  have h1 : i < l.length := by omega
  have ih := rising_loop k l lo hi h9 m (i + 1) n (by omega) (by omega)
  rw [prv_succ h1] at ih
  rw [lists_Rising.L1, if_pos (by omega), idx_pos h1, List.drop_eq_getElem_cons h1, scan_cons]
  by_cases a : l[i] < lo
  ·rw [if_pos a]; have : ¬ lo ≤ l[i] := by omega
   simp [this]
  by_cases b : hi < l[i]
  ·rw [if_neg a, if_pos b]; have : ¬ l[i] ≤ hi := by omega
   simp [this]
  rw [if_neg a, if_neg b]
  have a' : lo ≤ l[i] := by omega
  have b' : l[i] ≤ hi := by omega
  unfold lists_Rising.J2
  by_cases c : i = 0
  ·subst c
   rw [if_neg (by omega), succ64 0 (by omega)]; dsimp only; rw [ih]
   simp [prv, a', b']
  ·rw [if_pos (by omega), pred64 i (by omega) (by omega), idx_pos (by omega), succ64 i (by omega)]; dsimp only; rw [ih]
   have hp : prv l i = some (l[i - 1]'(by omega)) := by simp [prv, c, List.getElem?_eq_getElem (show i - 1 < l.length by omega)]
   rw [hp]
   by_cases d : l[i] ≤ l[i - 1]
   ·rw [if_pos d]; have : ¬ l[i - 1] < l[i] := by omega
    simp [this]
   ·rw [if_neg d]; have : l[i - 1] < l[i] := by omega
    simp [a', b', this]
theorem rising_eq (k : Nat) (l : List Int) (lo hi : Int) (h9 : l.length ≤ 9223372036854775807) (hk : l.length < k) :
 lists_Rising k l lo hi = some (scanB (fun x => decide (lo ≤ x) && decide (x ≤ hi)) (fun q x => decide (q < x)) none l) := rising_loop k l lo hi h9 l.length 0 k (by omega) hk
theorem set11_loop (k : Nat) (l : List Int) (v : Int) (h9 : l.length ≤ 9223372036854775807) : ∀ (m i n : Nat), i + m = l.length → m < n →
 ref11_Set.L1 k l v n (i : Int) = some (scanB (fun x => decide (0 ≤ x) && decide (x < v)) (fun q x => decide (q < x)) (prv l i) (l.drop i))
 | 0, i, n + 1, h, _ => by rw [ref11_Set.L1, if_neg (by omega), List.drop_of_length_le (by omega)]; rfl
 | m + 1, i, n + 1, h, hn => by
  have h1 : i < l.length := by omega
  have ih := set11_loop k l v h9 m (i + 1) n (by omega) (by omega)
  rw [prv_succ h1] at ih
  rw [ref11_Set.L1, if_pos (by omega), idx_pos h1, List.drop_eq_getElem_cons h1, scan_cons]
  by_cases a : l[i] < 0
  ·rw [if_pos a]; have : ¬ 0 ≤ l[i] := by omega
   simp [this]
  by_cases b : v ≤ l[i]
  ·rw [if_neg a, if_pos b]; have : ¬ l[i] < v := by omega
   simp [this]
  rw [if_neg a, if_neg b]
  have a' : 0 ≤ l[i] := by omega
  have b' : l[i] < v := by omega
  unfold ref11_Set.J2
  by_cases c : i = 0
  ·subst c
   rw [if_neg (by omega), succ64 0 (by omega)]; dsimp only; rw [ih]
   simp [prv, a', b']
  ·rw [if_pos (by omega), pred64 i (by omega) (by omega), idx_pos (by omega), succ64 i (by omega)]; dsimp only; rw [ih]
   have hp : prv l i = some (l[i - 1]'(by omega)) := by simp [prv, c, List.getElem?_eq_getElem (show i - 1 < l.length by omega)]
   rw [hp]
   by_cases d : l[i] ≤ l[i - 1]
   ·rw [if_pos d]; have : ¬ l[i - 1] < l[i] := by omega
    simp [this]
   ·rw [if_neg d]; have : l[i - 1] < l[i] := by omega
    simp [a', b', this]
theorem set11_eq (k : Nat) (l : List Int) (v : Int) (h9 : l.length ≤ 9223372036854775807) (hk : l.length < k) :
 ref11_Set k l v = some (scanB (fun x => decide (0 ≤ x) && decide (x < v)) (fun q x => decide (q < x)) none l) := set11_loop k l v h9 l.length 0 k (by omega) hk
def tabB : Option Int → List Int → Bool := scanB (fun x => decide (1 ≤ x) && decide (x ≤ 1000)) (fun q x => decide (x ≤ q))
theorem cap_loop (k : Nat) (l : List Int) (h9 : l.length ≤ 9223372036854775807) : ∀ (m i n : Nat), i + m = l.length → m < n →
 capacity_Check.L1 k l n (i : Int) = some (if tabB (prv l i) (l.drop i) = true then 0 else 15)
 | 0, i, n + 1, h, _ => by rw [capacity_Check.L1, if_neg (by omega), List.drop_of_length_le (by omega)]; rfl
 | m + 1, i, n + 1, h, hn => by
  have h1 : i < l.length := by omega
  have ih := cap_loop k l h9 m (i + 1) n (by omega) (by omega)
  rw [prv_succ h1] at ih
  rw [capacity_Check.L1, if_pos (by omega), idx_pos h1, List.drop_eq_getElem_cons h1, tabB, scan_cons, lists_In]
  by_cases a : 1 ≤ l[i]
  case neg => rw [if_neg a, bnd1_some]; simp [a]
  by_cases b : l[i] ≤ 1000
  case neg => rw [if_pos a, bnd1_some]; simp [b]
  rw [if_pos a, bnd1_some, if_neg (by simp [b])]
  unfold capacity_Check.J2
  by_cases c : i = 0
  ·subst c
   rw [if_neg (by omega), succ64 0 (by omega)]; dsimp only; rw [ih]
   simp [prv, a, b, tabB]
  ·rw [if_pos (by omega), pred64 i (by omega) (by omega), idx_pos (by omega), succ64 i (by omega)]; dsimp only; rw [ih]
   have hp : prv l i = some (l[i - 1]'(by omega)) := by simp [prv, c, List.getElem?_eq_getElem (show i - 1 < l.length by omega)]
   rw [hp]
   by_cases d : l[i - 1] < l[i]
   ·rw [if_pos d]; have : ¬ l[i] ≤ l[i - 1] := by omega
    simp [this]
   ·rw [if_neg d]; have : l[i] ≤ l[i - 1] := by omega
    simp [a, b, this, tabB]; rfl
theorem pol_loop (k : Nat) (l : List Int) (h9 : l.length ≤ 9223372036854775807) : ∀ (m i n : Nat), i + m = l.length → m < n →
 ref13_policy.L1 k l n (i : Int) = some (tabB (prv l i) (l.drop i))
 | 0, i, n + 1, h, _ => by rw [ref13_policy.L1, if_neg (by omega), List.drop_of_length_le (by omega)]; rfl
 | m + 1, i, n + 1, h, hn => by
  have h1 : i < l.length := by omega
  have ih := pol_loop k l h9 m (i + 1) n (by omega) (by omega)
  rw [prv_succ h1] at ih
  rw [ref13_policy.L1, if_pos (by omega), idx_pos h1, List.drop_eq_getElem_cons h1, tabB, scan_cons]
  by_cases a : l[i] < 1
  ·rw [if_pos a]; have : ¬ 1 ≤ l[i] := by omega
   simp [this]
  by_cases b : 1000 < l[i]
  ·rw [if_neg a, if_pos b]; have : ¬ l[i] ≤ 1000 := by omega
   simp [this]
  have a' : 1 ≤ l[i] := by omega
  have b' : l[i] ≤ 1000 := by omega
  rw [if_neg a, if_neg b]
  unfold ref13_policy.J2
  by_cases c : i = 0
  ·subst c
   rw [if_neg (by omega), succ64 0 (by omega)]; dsimp only; rw [ih]
   simp [prv, a', b', tabB]
  ·rw [if_pos (by omega), pred64 i (by omega) (by omega), idx_pos (by omega), succ64 i (by omega)]; dsimp only; rw [ih]
   have hp : prv l i = some (l[i - 1]'(by omega)) := by simp [prv, c, List.getElem?_eq_getElem (show i - 1 < l.length by omega)]
   rw [hp]
   by_cases d : l[i - 1] < l[i]
   ·rw [if_pos d]; have : ¬ l[i] ≤ l[i - 1] := by omega
    simp [this]
   ·rw [if_neg d]; have : l[i] ≤ l[i - 1] := by omega
    simp [a', b', this, tabB]
def polE (s t : List Int) (lv : Int) : Int :=
 if s ≠ [] ∧ scanB (fun x => decide (0 ≤ x) && decide (x ≤ 63)) (fun q x => decide (q < x)) none s = true ∧ 1 ≤ t.length ∧ t.length ≤ 8 ∧ 1 ≤ lv ∧ lv ≤ 3 ∧ tabB none t = true then 0 else 15
theorem graph0 (k : Nat) (hk : 0 < k) : graph_Check k 64 [] [] = some 0 := by
 obtain ⟨n, rfl⟩ : ∃ n, k = n + 1 := ⟨k - 1, by omega⟩
 unfold graph_Check lists_In lists_Rising
 rw [if_pos (by omega), bnd1_some, lists_Rising.L1, graph_Check.L1]
 simp
theorem len0 {l : List Int} : ((l.length : Int) = 0) ↔ l = [] := by cases l <;> simp; omega
theorem cap_eq (k : Nat) (s t : List Int) (lv : Int) (hs : s.length ≤ 9223372036854775807) (ht : t.length ≤ 9223372036854775807) (hk : s.length < k) (hk2 : t.length < k) :
 capacity_Check k 64 [] [] s t lv = some (polE s t lv) := by
 unfold capacity_Check polE
 rw [graph0 k (by omega), bnd1_some, if_neg (by simp), show IntKind.wrap .i64 ((64 : Int) - 1) = 63 from rfl, rising_eq k s 0 63 hs hk]
 by_cases a : s = []
 ·rw [if_pos (len0.2 a), if_neg (by simp [a])]
 rw [if_neg (by rw [len0]; exact a), bnd1_some]
 generalize scanB _ _ none s = S
 cases S
 ·rw [itf, if_neg (by simp)]
 rw [itt]
 unfold lists_In
 by_cases b : (1 : Int) ≤ (t.length : Int) ∧ (t.length : Int) ≤ 8
 case neg =>
  have h1 : (if (1 : Int) ≤ (t.length : Int) then some (decide ((t.length : Int) ≤ 8)) else some false) = some false := by
   split
   ·have : ¬ (t.length : Int) ≤ 8 := fun h => b ⟨by assumption, h⟩
    simp [this]
   ·rfl
  rw [h1, bnd1_some, itf, if_neg (by rintro ⟨_, _, h1, h2, _⟩; exact b ⟨by omega, by omega⟩)]
 rw [if_pos b.1, bnd1_some, if_neg (by simp [b.2])]
 by_cases c : 1 ≤ lv ∧ lv ≤ 3
 case neg =>
  have h1 : (if 1 ≤ lv then some (decide (lv ≤ 3)) else some false) = some false := by
   split
   ·have : ¬ lv ≤ 3 := fun h => c ⟨by assumption, h⟩
    simp [this]
   ·rfl
  rw [h1, bnd1_some, itf, if_neg (by rintro ⟨_, _, _, _, h1, h2, _⟩; exact c ⟨by omega, by omega⟩)]
 rw [if_pos c.1, bnd1_some, if_neg (by simp [c.2]), show (0 : Int) = ((0 : Nat) : Int) from rfl, cap_loop k t ht t.length 0 k (by omega) hk2]
 have h1 : 1 ≤ t.length := by omega
 have h2 : t.length ≤ 8 := by omega
 simp only [prv, if_true, List.drop_zero, h1, h2, c.1, c.2, a, ne_eq, not_false_eq_true, true_and]
 rfl
theorem ref13_eq (k : Nat) (s t : List Int) (lv : Int) (hs : s.length ≤ 9223372036854775807) (ht : t.length ≤ 9223372036854775807) (hk : s.length < k) (hk2 : t.length < k) :
 ref13_Check k 64 [] [] s t lv = some (polE s t lv) := by
 have g0 : ref11_Check k 64 [] [] = some 0 := by
  obtain ⟨n, rfl⟩ : ∃ n, k = n + 1 := ⟨k - 1, by omega⟩
  unfold ref11_Check ref11_Set
  rw [ref11_Set.L1, ref11_Check.L1]
  simp
 unfold ref13_Check ref13_policy polE
 rw [g0, bnd1_some, if_neg (by simp), set11_eq k s 64 hs hk, scan_congr (ok' := fun x => decide (0 ≤ x) && decide (x ≤ 63)) (rel' := fun q x => decide (q < x)) (fun x => by
  congr 1; exact decide_eq_decide.2 (by omega)) (fun _ _ => rfl)]
 by_cases a : s = []
 ·rw [if_pos (len0.2 a), bnd1_some, itf, if_neg (by simp [a])]
 rw [if_neg (by rw [len0]; exact a), bnd1_some]
 generalize scanB _ _ none s = S
 cases S
 ·rw [itf, bnd1_some, itf, if_neg (by simp)]
 rw [itt]
 by_cases b1 : (t.length : Int) < 1
 ·rw [if_pos b1, bnd1_some, itf, if_neg (by rintro ⟨_, _, h1, _⟩; omega)]
 by_cases b2 : 8 < (t.length : Int)
 ·rw [if_neg b1, if_pos b2, bnd1_some, itf, if_neg (by rintro ⟨_, _, _, h1, _⟩; omega)]
 by_cases c1 : lv < 1
 ·rw [if_neg b1, if_neg b2, if_pos c1, bnd1_some, itf, if_neg (by rintro ⟨_, _, _, _, h1, _⟩; omega)]
 by_cases c2 : 3 < lv
 ·rw [if_neg b1, if_neg b2, if_neg c1, if_pos c2, bnd1_some, itf, if_neg (by rintro ⟨_, _, _, _, _, h1, _⟩; omega)]
 rw [if_neg b1, if_neg b2, if_neg c1, if_neg c2, show (0 : Int) = ((0 : Nat) : Int) from rfl, pol_loop k t ht t.length 0 k (by omega) hk2, bnd1_some]
 have h1 : 1 ≤ t.length := by omega
 have h2 : t.length ≤ 8 := by omega
 have h3 : 1 ≤ lv := by omega
 have h4 : lv ≤ 3 := by omega
 simp only [prv, if_true, List.drop_zero, h1, h2, h3, h4, a, ne_eq, not_false_eq_true, true_and]
 cases tabB none t <;> simp
def ruleE (g s t : List Int) (lv seats span quota : Int) : Int :=
 if okR g = true then (if polE s t lv = 0 then (if 1 ≤ seats ∧ seats ≤ 9 ∧ 1 ≤ span ∧ span ≤ 1000000 ∧ 0 ≤ quota ∧ quota ≤ 64 then 0 else 40) else polE s t lv) else 43
theorem tail_eq (seats span quota : Int) : (if seats < 1 then some 40 else if 9 < seats then some 40 else if span < 1 then some 40 else if 1000000 < span then some 40 else if quota < 0 then some 40 else if 64 < quota then some 40 else some 0 : Option Int) =
 some (if 1 ≤ seats ∧ seats ≤ 9 ∧ 1 ≤ span ∧ span ≤ 1000000 ∧ 0 ≤ quota ∧ quota ≤ 64 then 0 else 40) := by
 repeat' split
 all_goals first | rfl | omega
theorem Check24_eq (k : Nat) (g s t : List Int) (lv seats span quota : Int) (hg : g.length ≤ 9223372036854775807) (hs : s.length ≤ 9223372036854775807) (ht : t.length ≤ 9223372036854775807) (hkg : g.length < k) (hk : s.length < k) (hk2 : t.length < k) :
 roster_Check k g s t lv seats span quota = some (ruleE g s t lv seats span quota) := by
 unfold roster_Check ruleE
 rw [Valid_eq k g hkg hg, bnd1_some, cap_eq k s t lv hs ht hk hk2]
 cases okR g
 ·rfl
 rw [itt, bnd1_some, tail_eq, if_pos rfl]
 by_cases h : polE s t lv = 0 <;> simp [h]
theorem refCheck24_eq (k : Nat) (g s t : List Int) (lv seats span quota : Int) (hg : g.length ≤ 9223372036854775807) (hs : s.length ≤ 9223372036854775807) (ht : t.length ≤ 9223372036854775807) (hkg : g.length < k) (hk : s.length < k) (hk2 : t.length < k) :
 ref24_Check k g s t lv seats span quota = some (ruleE g s t lv seats span quota) := by
 unfold ref24_Check ruleE
 rw [refValid_eq k g hkg hg, bnd1_some, ref13_eq k s t lv hs ht hk hk2]
 cases okR g
 ·rfl
 rw [itt, bnd1_some, tail_eq, if_pos rfl]
 by_cases h : polE s t lv = 0 <;> simp [h]
theorem Of_eq (k : Nat) (l : List Int) (p : Int) (c : List Int) (hl : l.length ≤ 1000) (hp : Pos p) (h0 : 0 < c.length) (h9 : c.length ≤ 1000000) : ∃ x q, made_Dice_Of k l p c = some (x, q) ∧ Pos q ∧ x ∈ c := by
 unfold made_Dice_Of
 obtain ⟨a, q, e, hq, ha⟩ := Next_eq k l p (c.length : Int) hl hp
 have ha := ha (by omega) (by omega)
 rw [e, bnd2_some]
 obtain ⟨j, rfl⟩ := Int.eq_ofNat_of_zero_le ha.1
 have hj : j < c.length := by omega
 rw [idx_pos hj]
 exact ⟨c[j], q, rfl, hq, List.getElem_mem hj⟩
theorem One_eq (k : Nat) (l : List Int) (p n : Int) (hl : l.length ≤ 1000) (hp : Pos p) (h1 : 1 ≤ n) (h9 : n ≤ 1000000) : ∃ b q, made_Dice_One k l p n = some (b, q) ∧ Pos q := by
 unfold made_Dice_One
 obtain ⟨a, q, e, hq, ha⟩ := Next_eq k l p n hl hp
 rw [e, bnd2_some]
 exact ⟨_, _, rfl, hq⟩
structure GoodR (g s t : List Int) (lv seats span quota : Int) : Prop where
 ok : ruleE g s t lv seats span quota = 0
 gg : ∃ n : Nat, 2 ≤ n ∧ n ≤ 6 ∧ g = ([0, 1, 2, 3, 4, 5, 6] : List Int).take n
 ss : s = [0] ∨ s = [0, 1]
 tl : t.length = 2
 tv : ∃ a b, t = [a, b] ∧ a ∈ ([5, 9, 3] : List Int) ∧ (b = a ∨ b ∈ ([3, 2, 1] : List Int))
 lv : lv ∈ ([1, 1, 2] : List Int)
 seats : seats ∈ ([3, 1, 4, 5, 2] : List Int)
 span : span ∈ ([10, 20, 5, 1] : List Int)
 quota : quota ∈ ([1, 2, 0, 5] : List Int)
theorem polE_good (s : List Int) (a b lv : Int) (hs : s = [0] ∨ s = [0, 1]) (ha : 1 ≤ a ∧ a ≤ 1000) (hb : 1 ≤ b ∧ b ≤ a) (hl : 1 ≤ lv ∧ lv ≤ 3) : polE s [a, b] lv = 0 := by
 unfold polE
 rw [if_pos]
 refine ⟨by rcases hs with rfl | rfl <;> simp, by rcases hs with rfl | rfl <;> rfl, by simp, by simp, hl.1, hl.2, ?_⟩
 simp [tabB, scanB]; omega
theorem okR_take (n : Nat) (h : 2 ≤ n ∧ n ≤ 6) : okR (([0, 1, 2, 3, 4, 5, 6] : List Int).take n) = true := by
 have : n = 2 ∨ n = 3 ∨ n = 4 ∨ n = 5 ∨ n = 6 := by omega
 rcases this with rfl | rfl | rfl | rfl | rfl <;> rfl
theorem Rules_eq (k : Nat) (l : List Int) (p : Int) (hl : l.length ≤ 1000) (hp : Pos p) : ∃ g s t lv seats span quota q, mill_Rules k l p = some (g, s, t, lv, seats, span, quota, q) ∧ Pos q ∧ GoodR g s t lv seats span quota := by
 unfold mill_Rules
 obtain ⟨seats, p1, e1, q1, m1⟩ := Of_eq k l p [3, 1, 4, 5, 2] hl hp (by simp) (by simp)
 obtain ⟨span, p2, e2, q2, m2⟩ := Of_eq k l p1 [10, 20, 5, 1] hl q1 (by simp) (by simp)
 obtain ⟨quota, p3, e3, q3, m3⟩ := Of_eq k l p2 [1, 2, 0, 5] hl q2 (by simp) (by simp)
 obtain ⟨a, p4, e4, q4, m4⟩ := Next_eq k l p3 5 hl q3
 have m4 := m4 (by omega) (by omega)
 obtain ⟨t0, p5, e5, q5, m5⟩ := Of_eq k l p4 [4, 8, 2] hl q4 (by simp) (by simp)
 obtain ⟨t1, p6, e6, q6, m6⟩ := Of_eq k l p5 [2, 1, 0] hl q5 (by simp) (by simp)
 obtain ⟨lv, p7, e7, q7, m7⟩ := Of_eq k l p6 [1, 1, 2] hl q6 (by simp) (by simp)
 obtain ⟨b, p8, e8, q8⟩ := One_eq k l p7 3 hl q7 (by omega) (by omega)
 have r5 : 2 ≤ t0 ∧ t0 ≤ 8 := by simp at m5; omega
 have r6 : 0 ≤ t1 ∧ t1 ≤ 2 := by simp at m6; omega
 have wa : IntKind.wrap .i64 (2 + a) = 2 + a := w64 (by omega) (by omega)
 have w0 : IntKind.wrap .i64 (1 + t0) = 1 + t0 := w64 (by omega) (by omega)
 have w1 : IntKind.wrap .i64 (1 + t1) = 1 + t1 := w64 (by omega) (by omega)
 rw [e1, bnd2_some, e2, bnd2_some, e3, bnd2_some, e4, bnd2_some, wa, chk_pos ⟨by omega, by simp; omega⟩, e5, bnd2_some, e6, bnd2_some, e7, bnd2_some, e8, bnd2_some]
 have key : ∀ s : List Int, (s = [0] ∨ s = [0, 1]) → ∃ g t, mill_Rules.J1 k seats span quota a t0 t1 lv s p8 = some (g, s, t, lv, seats, span, quota, p8) ∧ GoodR g s t lv seats span quota := by
  intro s hs
  have hJ : mill_Rules.J1 k seats span quota a t0 t1 lv s p8 = some (([0, 1, 2, 3, 4, 5, 6] : List Int).take (2 + a).toNat, s, [1 + t0, if 1 + t1 < 1 + t0 then 1 + t1 else 1 + t0], lv, seats, span, quota, p8) := by
   unfold mill_Rules.J1
   rw [wa, w0, w1]
   simp [chk, idx, let1_eq]
  refine ⟨_, _, hJ, ?_⟩
  have hn2 : 2 ≤ (2 + a).toNat ∧ (2 + a).toNat ≤ 6 := by omega
  have hx1 : 1 ≤ (if 1 + t1 < 1 + t0 then 1 + t1 else 1 + t0) ∧ (if 1 + t1 < 1 + t0 then 1 + t1 else 1 + t0) ≤ 1 + t0 := by split <;> omega
  have r7 : 1 ≤ lv ∧ lv ≤ 2 := by simp at m7; omega
  have r1 : 1 ≤ seats ∧ seats ≤ 5 := by simp at m1; omega
  have r2 : 1 ≤ span ∧ span ≤ 20 := by simp at m2; omega
  have r3 : 0 ≤ quota ∧ quota ≤ 5 := by simp at m3; omega
  refine ⟨?_, ⟨_, hn2.1, hn2.2, rfl⟩, hs, rfl, ⟨1 + t0, (if 1 + t1 < 1 + t0 then 1 + t1 else 1 + t0), rfl, ?_, ?_⟩, m7, m1, m2, m3⟩
  ·unfold ruleE
   rw [if_pos (okR_take _ hn2), polE_good s _ _ lv hs (by omega) hx1 (by omega), if_pos rfl, if_pos (by omega)]
  ·simp at m5 ⊢; omega
  ·simp at m6 ⊢; split <;> omega
 cases b
 ·rw [if_neg (by simp)]
  obtain ⟨g, t, h1, h2⟩ := key [0] (.inl rfl)
  exact ⟨g, [0], t, lv, seats, span, quota, p8, h1, q8, h2⟩
 ·rw [if_pos rfl]
  obtain ⟨g, t, h1, h2⟩ := key [0, 1] (.inr rfl)
  exact ⟨g, [0, 1], t, lv, seats, span, quota, p8, h1, q8, h2⟩
theorem GoodR.lens {g s t : List Int} {lv seats span quota : Int} (h : GoodR g s t lv seats span quota) : g.length ≤ 10 ∧ s.length ≤ 10 ∧ t.length ≤ 10 := by
 obtain ⟨n, _, h2, rfl⟩ := h.gg
 have := h.tl
 refine ⟨by simp; omega, ?_, by omega⟩
 rcases h.ss with rfl | rfl <;> simp
theorem Odd_eq (k : Nat) (l : List Int) (p : Int) (g s t : List Int) (lv seats span quota : Int) (hl : l.length ≤ 1000) (hp : Pos p) (hg : g.length ≤ 10) (hs : s.length ≤ 10) (ht : t.length ≤ 10) :
 ∃ g' s' t' lv' seats' span' quota' q, mill_Odd k l p g s t lv seats span quota = some (g', s', t', lv', seats', span', quota', q) ∧ Pos q ∧ g'.length ≤ 10 ∧ s'.length ≤ 10 ∧ t'.length ≤ 10 := by
 unfold mill_Odd
 obtain ⟨a, p1, e1, q1, m1⟩ := Next_eq k l p 7 hl hp
 rw [e1, bnd2_some]
 by_cases a0 : a = 0
 ·rw [if_pos a0]
  obtain ⟨c, p2, e2, q2, m2⟩ := Next_eq k l p1 5 hl q1
  have m2 := m2 (by omega) (by omega)
  rw [e2, bnd2_some]
  by_cases c0 : c = 0
  ·rw [if_pos c0]; exact ⟨_, _, _, _, _, _, _, _, rfl, q2, by simp, hs, ht⟩
  rw [if_neg c0]
  by_cases c1 : c = 1
  ·rw [if_pos c1]; exact ⟨_, _, _, _, _, _, _, _, rfl, q2, by simp, hs, ht⟩
  rw [if_neg c1]
  by_cases c2 : c = 2
  ·rw [if_pos c2]; exact ⟨_, _, _, _, _, _, _, _, rfl, q2, by simp, hs, ht⟩
  rw [if_neg c2]
  by_cases c3 : c = 3
  ·rw [if_pos c3]; exact ⟨_, _, _, _, _, _, _, _, rfl, q2, by simp, hs, ht⟩
  rw [if_neg c3]
  rw [if_pos (by omega)]; exact ⟨_, _, _, _, _, _, _, _, rfl, q2, by simp, hs, ht⟩
 rw [if_neg a0]
 by_cases a1 : a = 1
 ·rw [if_pos a1]
  obtain ⟨x, p2, e2, q2, _⟩ := Of_eq k l p1 [0, -1, 9, 10] hl q1 (by simp) (by simp)
  rw [e2, bnd2_some]; exact ⟨_, _, _, _, _, _, _, _, rfl, q2, hg, hs, ht⟩
 rw [if_neg a1]
 by_cases a2 : a = 2
 ·rw [if_pos a2]
  obtain ⟨x, p2, e2, q2, _⟩ := Of_eq k l p1 [0, -1, 1000000, 1000001] hl q1 (by simp) (by simp)
  rw [e2, bnd2_some]; exact ⟨_, _, _, _, _, _, _, _, rfl, q2, hg, hs, ht⟩
 rw [if_neg a2]
 by_cases a3 : a = 3
 ·rw [if_pos a3]
  obtain ⟨x, p2, e2, q2, _⟩ := Of_eq k l p1 [-1, 64, 65] hl q1 (by simp) (by simp)
  rw [e2, bnd2_some]; exact ⟨_, _, _, _, _, _, _, _, rfl, q2, hg, hs, ht⟩
 rw [if_neg a3]
 by_cases a4 : a = 4
 ·rw [if_pos a4]
  obtain ⟨c, p2, e2, q2, m2⟩ := Next_eq k l p1 3 hl q1
  have m2 := m2 (by omega) (by omega)
  rw [e2, bnd2_some]
  by_cases c0 : c = 0
  ·rw [if_pos c0]; exact ⟨_, _, _, _, _, _, _, _, rfl, q2, hg, by simp, ht⟩
  rw [if_neg c0]
  by_cases c1 : c = 1
  ·rw [if_pos c1]; exact ⟨_, _, _, _, _, _, _, _, rfl, q2, hg, by simp, ht⟩
  rw [if_neg c1]
  rw [if_pos (by omega)]; exact ⟨_, _, _, _, _, _, _, _, rfl, q2, hg, by simp, ht⟩
 rw [if_neg a4]
 by_cases a5 : a = 5
 ·rw [if_pos a5]
  obtain ⟨c, p2, e2, q2, m2⟩ := Next_eq k l p1 4 hl q1
  have m2 := m2 (by omega) (by omega)
  rw [e2, bnd2_some]
  by_cases c0 : c = 0
  ·rw [if_pos c0]; exact ⟨_, _, _, _, _, _, _, _, rfl, q2, hg, hs, by simp⟩
  rw [if_neg c0]
  by_cases c1 : c = 1
  ·rw [if_pos c1]; exact ⟨_, _, _, _, _, _, _, _, rfl, q2, hg, hs, by simp⟩
  rw [if_neg c1]
  by_cases c2 : c = 2
  ·rw [if_pos c2]; exact ⟨_, _, _, _, _, _, _, _, rfl, q2, hg, hs, by simp⟩
  rw [if_neg c2]
  rw [if_pos (by omega)]; exact ⟨_, _, _, _, _, _, _, _, rfl, q2, hg, hs, by simp⟩
 rw [if_neg a5]
 obtain ⟨x, p2, e2, q2, _⟩ := Of_eq k l p1 [0, 4, -1] hl q1 (by simp) (by simp)
 rw [e2, bnd2_some]; exact ⟨_, _, _, _, _, _, _, _, rfl, q2, hg, hs, ht⟩
theorem mLight_eq (k : Nat) (l : List Int) : mill_Light k l = some (decide ((l.length : Int) ≤ 400)) := rfl
theorem mRoll_eq (k : Nat) (l : List Int) : mill_Roll k l = some (l, 0) := rfl
end Go.TF
