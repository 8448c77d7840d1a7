/- Plain laws: what is sorted, deleted and repeated; distances as the reference has them, and as the program finds them. -/
import Derived.Test.YtmiimcogppdepaaHaPgr
import Derived.Test.YtmiimcogppdepaaHaPdist
set_option linter.unusedVariables false
set_option linter.unusedSimpArgs false
namespace Go.TF
open Go Go.Abs
def tab (N : Nat) (f : Int → Int) : List Int := (List.range N).map fun (v : Nat) => f (v : Int)
@[simp] theorem tab_len (N : Nat) (f : Int → Int) : (tab N f).length = N := by simp [tab]
theorem tab_get {N : Nat} {f : Int → Int} {i : Nat} (h : i < (tab N f).length) : (tab N f)[i] = f (i : Int) := by simp [tab]
theorem idx_tab {β : Type} {N : Nat} {f : Int → Int} {x : Int} {F : Int → Option β} (h0 : 0 ≤ x) (h1 : x < N) : idx (tab N f) x F = F (f x) := by
 obtain ⟨i, rfl⟩ := Int.eq_ofNat_of_zero_le h0
 rw [idx_pos (by simp; omega), tab_get]
theorem tab_congr {N : Nat} {f g : Int → Int} (h : ∀ v : Int, 0 ≤ v → v < N → f v = g v) : tab N f = tab N g :=
 List.map_congr_left fun v hv => h v (by omega) (by have := List.mem_range.1 hv; omega)
theorem tab_set {N : Nat} {f : Int → Int} {x y : Int} (h0 : 0 ≤ x) : (tab N f).set x.toNat y = tab N fun v => if v = x then y else f v := by
 obtain ⟨i, rfl⟩ := Int.eq_ofNat_of_zero_le h0
 refine List.ext_getElem (by simp) fun j h1 h2 => ?_
 rw [List.getElem_set, tab_get, tab_get]
 by_cases e : i = j
 ·subst e; simp
 ·have : ¬ (j : Int) = (i : Int) := by omega
  simp [e, this]
theorem tab_succ (N : Nat) (f : Int → Int) : tab (N + 1) f = tab N f ++ [f (N : Int)] := by
 simp [tab, List.range_succ]
theorem set_last (l : List Int) (i : Int) (x y : Int) (h : i.toNat = l.length) : (l ++ [x]).set i.toNat y = l ++ [y] := by
 rw [List.set_append_right _ _ (by omega), h]; simp
def pr (e : api_Edge) : Int × Int := (e.From, e.To)
abbrev dE (E : List api_Edge) (S : Int → Bool) := Dist.dst (E.map pr) S
def inE (N : Nat) (E : List api_Edge) : Prop := ∀ e ∈ E, 0 ≤ e.From ∧ e.From < N ∧ 0 ≤ e.To ∧ e.To < N
def sS (s g : List Int) (v : Int) : Bool := decide (v ∈ s) && !decide (v ∈ g)
def mid (E : List api_Edge) (S : Int → Bool) (r i : Nat) (v : Int) : Int :=
 if dE E S r v ≠ -1 then dE E S r v else if (E.take i).any (fun e => e.To == v && dE E S r e.From == (r : Int)) then (r : Int) + 1 else -1
theorem mid_zero (E : List api_Edge) (S : Int → Bool) (r : Nat) (v : Int) : mid E S r 0 v = dE E S r v := by
 unfold mid
 by_cases h : dE E S r v = -1 <;> simp [h]
theorem mid_all (E : List api_Edge) (S : Int → Bool) (r : Nat) (v : Int) : mid E S r E.length v = dE E S (r + 1) v := by
 unfold mid
 rw [List.take_length]
 show _ = Dist.dst (E.map pr) S (r + 1) v
 rw [Dist.dst, List.any_map]; rfl
theorem mid_succ (E : List api_Edge) (S : Int → Bool) (r i : Nat) (hi : i < E.length) (v : Int) : mid E S r (i + 1) v = if dE E S r v ≠ -1 then dE E S r v else if (E.take i).any (fun e => e.To == v && dE E S r e.From == (r : Int)) || (E[i].To == v && dE E S r E[i].From == (r : Int)) then (r : Int) + 1 else -1 := by
 unfold mid
 rw [List.take_succ_eq_append_getElem hi, List.any_append]; simp
theorem r12_L4 (k N : Nat) (E : List api_Edge) (S : Int → Bool) (kb : Int → List Int → Option (List Int)) (hE : inE N E) (h9 : E.length ≤ 1000000) (r : Nat) (hr : r ≤ 1000000) : ∀ (m i n : Nat), i + m = E.length → m < n →
 ref12_All.L4 k E (r : Int) kb n (i : Int) (tab N (mid E S r i)) = kb ((r + 1 : Nat) : Int) (tab N (dE E S (r + 1)))
 | 0, i, n + 1, h, _ => by
  have : i = E.length := by omega
  subst this
  rw [ref12_All.L4, if_neg (by omega), sc64 r (by omega)]
  have e0 : tab N (mid E S r E.length) = tab N (dE E S (r + 1)) := tab_congr fun v _ _ => mid_all E S r v
  rw [e0]
 | m + 1, i, n + 1, h, hn => by
  have hi : i < E.length := by omega
  have he := hE E[i] (List.getElem_mem hi)
  have hrng : ∀ v, dE E S r v = -1 ∨ (0 ≤ dE E S r v ∧ dE E S r v ≤ r) := fun v => Dist.dst_range r v
  have ih := r12_L4 k N E S kb hE h9 r hr m (i + 1) n (by omega) (by omega)
  rw [ref12_All.L4, if_pos (by omega), idx_pos hi, chk_pos ⟨by omega, by simp; omega⟩, idx_tab he.1 he.2.1]
  unfold ref12_All.J5
  simp only [sc64 i (by omega)]
  have hm : ∀ v, mid E S r i v = (r : Int) ↔ dE E S r v = (r : Int) := by
   intro v; unfold mid
   have := hrng v
   by_cases a : dE E S r v = -1
   ·simp only [a]; simp
    split <;> omega
   ·simp [a]
  by_cases h1 : dE E S r E[i].From = (r : Int)
  ·rw [if_pos ((hm _).2 h1), chk_pos ⟨by omega, by simp; omega⟩, idx_tab he.2.2.1 he.2.2.2]
   by_cases h2 : mid E S r i E[i].To = -1
   ·rw [if_pos h2, chk_pos ⟨by omega, by simp; omega⟩, tab_set he.2.2.1, sc64 r (by omega), ← ih]
    congr 1
    refine tab_congr fun v _ _ => ?_
    rw [mid_succ E S r i hi, h1]
    by_cases e : v = E[i].To
    ·subst e
     rw [if_pos rfl]
     unfold mid at h2
     by_cases a : dE E S r E[i].To = -1
     ·simp [a]
     ·simp [a] at h2
    ·rw [if_neg e]
     have e' : (E[i].To == v) = false := by simpa using fun q => e q.symm
     unfold mid; rw [e']; simp
   ·rw [if_neg h2, ← ih]
    congr 1
    refine tab_congr fun v _ _ => ?_
    rw [mid_succ E S r i hi, h1]
    unfold mid at h2 ⊢
    by_cases a : dE E S r v = -1
    ·by_cases e : E[i].To = v
     ·subst e
      cases hB : (E.take i).any (fun e => e.To == E[i].To && dE E S r e.From == (r : Int)) with
      | false => rw [hB] at h2; simp [a] at h2
      | true => simp [a]
     ·simp [a, e]
    ·simp [a]
  ·rw [if_neg (fun q => h1 ((hm _).1 q)), ← ih]
   congr 1
   refine tab_congr fun v _ _ => ?_
   rw [mid_succ E S r i hi]
   have e' : (dE E S r E[i].From == (r : Int)) = false := by simpa using h1
   unfold mid; rw [e']; simp
theorem r12_L3 (k N : Nat) (E : List api_Edge) (S : Int → Bool) (hE : inE N E) (h9 : E.length ≤ 1000000) (hk : E.length < k) (hN : N ≤ 1000000) : ∀ (m r n : Nat), r + m = N → m < n →
 ref12_All.L3 k (N : Int) E n (r : Int) (tab N (dE E S r)) = some (tab N (dE E S N))
 | 0, r, n + 1, h, _ => by
  have : r = N := by omega
  subst this
  rw [ref12_All.L3, if_neg (by omega)]
 | m + 1, r, n + 1, h, hn => by
  rw [ref12_All.L3, if_pos (by omega)]
  have := r12_L4 k N E S (fun v10_ v11_ => ref12_All.L3 k (N : Int) E n v10_ v11_) hE h9 r (by omega) E.length 0 k (by omega) hk
  have e0 : tab N (mid E S r 0) = tab N (dE E S r) := tab_congr fun v _ _ => mid_zero E S r v
  rw [e0] at this
  rw [show (0 : Int) = ((0 : Nat) : Int) from rfl, this]
  exact r12_L3 k N E S hE h9 hk hN m (r + 1) n (by omega) (by omega)
theorem r12_L1 (k N : Nat) (E : List api_Edge) (g s : List Int) (hE : inE N E) (h9 : E.length ≤ 1000000) (hk : E.length < k) (hkN : N < k) (hN : N ≤ 1000000) (hg : g.length < k) (hg9 : g.length ≤ 1000000) (hs : s.length < k) (hs9 : s.length ≤ 1000000) : ∀ (m i n : Nat), i + m = N → m < n →
 ref12_All.L1 k (N : Int) E g s n (i : Int) (tab i (dE E (sS s g) 0)) = some (tab N (dE E (sS s g) N))
 | 0, i, n + 1, h, _ => by
  have : i = N := by omega
  subst this
  rw [ref12_All.L1, if_neg (by omega)]
  exact r12_L3 k i E (sS s g) hE h9 hk hN i 0 k (by omega) hkN
 | m + 1, i, n + 1, h, hn => by
  have ih := r12_L1 k N E g s hE h9 hk hkN hN hg hg9 hs hs9 m (i + 1) n (by omega) (by omega)
  rw [ref12_All.L1, if_pos (by omega), chk_pos (by simp; omega), rHas_eq k s _ hs hs9, bnd1_some]
  unfold ref12_All.J2
  simp only [sc64 i (by omega), rHas_eq k g _ hg hg9, bnd1_some]
  rw [tab_succ] at ih
  have hd : dE E (sS s g) 0 (i : Int) = if sS s g (i : Int) then 0 else -1 := rfl
  rw [hd] at ih
  unfold sS at ih ⊢
  by_cases a : (i : Int) ∈ s
  ·rw [if_pos (by simp [a])]
   by_cases b : (i : Int) ∈ g
   ·rw [if_neg (by simp [b])]
    simpa [a, b] using ih
   ·rw [if_pos (by simp [b]), chk_pos ⟨by omega, by simp⟩]
    rw [set_last _ _ _ _ (by simp)]
    simpa [a, b] using ih
  ·rw [if_neg (by simp [a])]
   simpa [a] using ih
theorem r12_eq (k N : Nat) (E : List api_Edge) (g s : List Int) (hE : inE N E) (h9 : E.length ≤ 1000000) (hk : E.length < k) (hkN : N < k) (hN : N ≤ 1000000) (hg : g.length < k) (hg9 : g.length ≤ 1000000) (hs : s.length < k) (hs9 : s.length ≤ 1000000) :
 ref12_All k (N : Int) E g s = some (tab N (dE E (sS s g) N)) := r12_L1 k N E g s hE h9 hk hkN hN hg hg9 hs hs9 N 0 k (by omega) hkN
end Go.TF
