/- Plain laws of layer 24: rules. -/
import Derived.Test.YteclncnknklkfaaGaPros
import Derived.Test.YteclncnknklkfaaGaPmade
set_option linter.unusedVariables false
set_option linter.unusedSimpArgs false
namespace Go.TF
open Go Go.Abs
def relP (rel : Int → Int → Bool) : Option Int → Int → Bool
 | none, _ => true
 | some q, x => rel q x
@[simp] theorem relP_none (rel : Int → Int → Bool) (x : Int) : relP rel none x = true := rfl
@[simp] theorem relP_some (rel : Int → Int → Bool) (q x : Int) : relP rel (some q) x = rel q x := rfl
def scanB (ok : Int → Bool) (rel : Int → Int → Bool) (p : Option Int) (l : List Int) : Bool :=
 match l with
 | [] => true
 | x :: l => ok x && relP rel p x && scanB ok rel (some x) l
theorem scan_cons (ok : Int → Bool) (rel : Int → Int → Bool) (p : Option Int) (x : Int) (l : List Int) : scanB ok rel p (x :: l) = (ok x && relP rel p x && scanB ok rel (some x) l) := rfl
def prv (l : List Int) (i : Nat) : Option Int := if i = 0 then none else l[i - 1]?
theorem prv_succ {l : List Int} {i : Nat} (h : i < l.length) : prv l (i + 1) = some l[i] := by simp [prv, h]
theorem pred64 (i : Nat) (h0 : 0 < i) (h : i < 9223372036854775807) : IntKind.wrap .i64 ((i : Int) - 1) = ((i - 1 : Nat) : Int) := by rw [w64 (by omega) (by omega)]; omega
theorem itf {α : Type} (x y : α) : (if (!false) = true then x else y) = x := rfl
theorem itt {α : Type} (x y : α) : (if (!true) = true then x else y) = y := rfl
theorem scan_congr {ok ok' : Int → Bool} {rel rel' : Int → Int → Bool} (h : ∀ x, ok x = ok' x) (h2 : ∀ x y, rel x y = rel' x y) : scanB ok rel = scanB ok' rel' := by
 rw [show ok = ok' from funext h, show rel = rel' from funext fun x => funext fun y => h2 x y]
def tabB : Option Int → List Int → Bool := scanB (fun x => decide (1 ≤ x) && decide (x ≤ 1000)) (fun q x => decide (x ≤ q))
def polE (s t : List Int) (lv : Int) : Int :=
 if s ≠ [] ∧ scanB (fun x => decide (0 ≤ x) && decide (x ≤ 63)) (fun q x => decide (q < x)) none s = true ∧ 1 ≤ t.length ∧ t.length ≤ 8 ∧ 1 ≤ lv ∧ lv ≤ 3 ∧ tabB none t = true then 0 else 15
theorem len0 {l : List Int} : ((l.length : Int) = 0) ↔ l = [] := by cases l <;> simp; omega
def ruleE (g s t : List Int) (lv seats span quota : Int) : Int :=
 if okR g = true then (if polE s t lv = 0 then (if 1 ≤ seats ∧ seats ≤ 9 ∧ 1 ≤ span ∧ span ≤ 1000000 ∧ 0 ≤ quota ∧ quota ≤ 64 then 0 else 40) else polE s t lv) else 43
theorem tail_eq (seats span quota : Int) : (if seats < 1 then some 40 else if 9 < seats then some 40 else if span < 1 then some 40 else if 1000000 < span then some 40 else if quota < 0 then some 40 else if 64 < quota then some 40 else some 0 : Option Int) =
 some (if 1 ≤ seats ∧ seats ≤ 9 ∧ 1 ≤ span ∧ span ≤ 1000000 ∧ 0 ≤ quota ∧ quota ≤ 64 then 0 else 40) := by
 repeat' split
 all_goals first | rfl | omega
theorem Of_eq (k : Nat) (l : List Int) (p : Int) (c : List Int) (hl : l.length ≤ 1000) (hp : Pos p) (h0 : 0 < c.length) (h9 : c.length ≤ 1000000) : ∃ x q, made_Dice_Of k l p c = some (x, q) ∧ Pos q ∧ x ∈ c := by
 unfold made_Dice_Of
 obtain ⟨a, q, e, hq, ha⟩ := Next_eq k l p (c.length : Int) hl hp
 have ha := ha (by omega) (by omega)
 rw [e, bnd2_some]
 obtain ⟨j, rfl⟩ := Int.eq_ofNat_of_zero_le ha.1
 have hj : j < c.length := by omega
 rw [idx_pos hj]
 exact ⟨c[j], q, rfl, hq, List.getElem_mem hj⟩
theorem One_eq (k : Nat) (l : List Int) (p n : Int) (hl : l.length ≤ 1000) (hp : Pos p) (h1 : 1 ≤ n) (h9 : n ≤ 1000000) : ∃ b q, made_Dice_One k l p n = some (b, q) ∧ Pos q := by
 unfold made_Dice_One
 obtain ⟨a, q, e, hq, ha⟩ := Next_eq k l p n hl hp
 rw [e, bnd2_some]
 exact ⟨_, _, rfl, hq⟩
structure GoodR (g s t : List Int) (lv seats span quota : Int) : Prop where
 ok : ruleE g s t lv seats span quota = 0
 gg : ∃ n : Nat, 2 ≤ n ∧ n ≤ 6 ∧ g = ([0, 1, 2, 3, 4, 5, 6] : List Int).take n
 ss : s = [0] ∨ s = [0, 1]
 tl : t.length = 2
 tv : ∃ a b, t = [a, b] ∧ a ∈ ([5, 9, 3] : List Int) ∧ (b = a ∨ b ∈ ([3, 2, 1] : List Int))
 lv : lv ∈ ([1, 1, 2] : List Int)
 seats : seats ∈ ([3, 1, 4, 5, 2] : List Int)
 span : span ∈ ([10, 20, 5, 1] : List Int)
 quota : quota ∈ ([1, 2, 0, 5] : List Int)
theorem polE_good (s : List Int) (a b lv : Int) (hs : s = [0] ∨ s = [0, 1]) (ha : 1 ≤ a ∧ a ≤ 1000) (hb : 1 ≤ b ∧ b ≤ a) (hl : 1 ≤ lv ∧ lv ≤ 3) : polE s [a, b] lv = 0 := by
 unfold polE
 rw [if_pos]
 refine ⟨by rcases hs with rfl | rfl <;> simp, by rcases hs with rfl | rfl <;> rfl, by simp, by simp, hl.1, hl.2, ?_⟩
 simp [tabB, scanB]; omega
theorem okR_take (n : Nat) (h : 2 ≤ n ∧ n ≤ 6) : okR (([0, 1, 2, 3, 4, 5, 6] : List Int).take n) = true := by
 have : n = 2 ∨ n = 3 ∨ n = 4 ∨ n = 5 ∨ n = 6 := by omega
 rcases this with rfl | rfl | rfl | rfl | rfl <;> rfl
theorem GoodR.lens {g s t : List Int} {lv seats span quota : Int} (h : GoodR g s t lv seats span quota) : g.length ≤ 10 ∧ s.length ≤ 10 ∧ t.length ≤ 10 := by
 obtain ⟨n, _, h2, rfl⟩ := h.gg
 have := h.tl
 refine ⟨by simp; omega, ?_, by omega⟩
 rcases h.ss with rfl | rfl <;> simp
theorem mLight_eq (k : Nat) (l : List Int) : mill_Light k l = some (decide ((l.length : Int) ≤ 400)) := rfl
theorem mRoll_eq (k : Nat) (l : List Int) : mill_Roll k l = some (l, 0) := rfl
end Go.TF
