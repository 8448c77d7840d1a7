/- Plain laws: what is sorted, deleted and repeated; distances as the reference has them, and as the program finds them. -/
import Derived.Test.YtmiimcogppdepaaBaPgr
import Derived.Test.YtmiimcogppdepaaBaPdist
set_option linter.unusedVariables false
set_option linter.unusedSimpArgs false
namespace Go.TF
open Go Go.Abs
def tab (N : Nat) (f : Int → Int) : List Int := (List.range N).map fun (v : Nat) => f (v : Int)
@[simp] theorem tab_len (N : Nat) (f : Int → Int) : (tab N f).length = N := by simp [tab]
theorem tab_get {N : Nat} {f : Int → Int} {i : Nat} (h : i < (tab N f).length) : (tab N f)[i] = f (i : Int) := by simp [tab]
theorem idx_tab {β : Type} {N : Nat} {f : Int → Int} {x : Int} {F : Int → Option β} (h0 : 0 ≤ x) (h1 : x < N) : idx (tab N f) x F = F (f x) := by
 obtain ⟨i, rfl⟩ := Int.eq_ofNat_of_zero_le h0
 rw [idx_pos (by simp; omega), tab_get]
theorem tab_congr {N : Nat} {f g : Int → Int} (h : ∀ v : Int, 0 ≤ v → v < N → f v = g v) : tab N f = tab N g :=
 List.map_congr_left fun v hv => h v (by omega) (by have := List.mem_range.1 hv; omega)
theorem tab_set {N : Nat} {f : Int → Int} {x y : Int} (h0 : 0 ≤ x) : (tab N f).set x.toNat y = tab N fun v => if v = x then y else f v := by
 obtain ⟨i, rfl⟩ := Int.eq_ofNat_of_zero_le h0
 refine List.ext_getElem (by simp) fun j h1 h2 => ?_
 rw [List.getElem_set, tab_get, tab_get]
 by_cases e : i = j
 ·subst e; simp
 ·have : ¬ (j : Int) = (i : Int) := by omega
  simp [e, this]
theorem tab_succ (N : Nat) (f : Int → Int) : tab (N + 1) f = tab N f ++ [f (N : Int)] := by
 simp [tab, List.range_succ]
theorem set_last (l : List Int) (i : Int) (x y : Int) (h : i.toNat = l.length) : (l ++ [x]).set i.toNat y = l ++ [y] := by
 rw [List.set_append_right _ _ (by omega), h]; simp
def pr (e : api_Edge) : Int × Int := (e.From, e.To)
abbrev dE (E : List api_Edge) (S : Int → Bool) := Dist.dst (E.map pr) S
def inE (N : Nat) (E : List api_Edge) : Prop := ∀ e ∈ E, 0 ≤ e.From ∧ e.From < N ∧ 0 ≤ e.To ∧ e.To < N
def sS (s g : List Int) (v : Int) : Bool := decide (v ∈ s) && !decide (v ∈ g)
def mid (E : List api_Edge) (S : Int → Bool) (r i : Nat) (v : Int) : Int :=
 if dE E S r v ≠ -1 then dE E S r v else if (E.take i).any (fun e => e.To == v && dE E S r e.From == (r : Int)) then (r : Int) + 1 else -1
theorem mid_zero (E : List api_Edge) (S : Int → Bool) (r : Nat) (v : Int) : mid E S r 0 v = dE E S r v := by
 unfold mid
 by_cases h : dE E S r v = -1 <;> simp [h]
theorem mid_all (E : List api_Edge) (S : Int → Bool) (r : Nat) (v : Int) : mid E S r E.length v = dE E S (r + 1) v := by
 unfold mid
 rw [List.take_length]
 show _ = Dist.dst (E.map pr) S (r + 1) v
 rw [Dist.dst, List.any_map]; rfl
theorem mid_succ (E : List api_Edge) (S : Int → Bool) (r i : Nat) (hi : i < E.length) (v : Int) : mid E S r (i + 1) v = if dE E S r v ≠ -1 then dE E S r v else if (E.take i).any (fun e => e.To == v && dE E S r e.From == (r : Int)) || (E[i].To == v && dE E S r E[i].From == (r : Int)) then (r : Int) + 1 else -1 := by
 unfold mid
 rw [List.take_succ_eq_append_getElem hi, List.any_append]; simp
end Go.TF
