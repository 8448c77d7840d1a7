/- Plain laws: capacities and the bound, of the program and of the reference; made graphs and policies. -/
import Derived.Test.YtmiimcogppdepaaHaPds
set_option linter.unusedVariables false
set_option linter.unusedSimpArgs false
namespace Go.TF
open Go Go.Abs
def ofC (t : List Int) (d : Int) : Int := if d < 0 then 0 else if d < t.length then t.getD d.toNat 0 else 1
theorem cOf_eq (k : Nat) (s t : List Int) (l d : Int) : capacity_Of k s t l d = some (ofC t d) := by
 unfold capacity_Of ofC
 by_cases h : d < 0
 ·rw [if_pos h, if_pos h]
 rw [if_neg h, if_neg h]
 by_cases h2 : d < t.length
 ·obtain ⟨i, rfl⟩ := Int.eq_ofNat_of_zero_le (show 0 ≤ d by omega)
  have h3 : i < t.length := by omega
  rw [if_pos h2, if_pos h2, idx_pos h3]
  simp [List.getD_eq_getElem?_getD, List.getElem?_eq_getElem h3]
 ·rw [if_neg h2, if_neg h2]
theorem rOf13_eq (k : Nat) (s t : List Int) (l d : Int) : ref13_Of k s t l d = some (ofC t d) := by
 unfold ref13_Of ofC
 by_cases h : d < 0
 ·rw [if_pos h, if_pos h]
 rw [if_neg h, if_neg h]
 by_cases h2 : d < t.length
 ·obtain ⟨i, rfl⟩ := Int.eq_ofNat_of_zero_le (show 0 ≤ d by omega)
  have h3 : i < t.length := by omega
  rw [if_pos h2, if_pos h2, idx_pos h3]
  simp [List.getD_eq_getElem?_getD, List.getElem?_eq_getElem h3]
 ·rw [if_neg h2, if_neg h2]
theorem ofC_range {t : List Int} (ht : ∀ x ∈ t, 0 ≤ x ∧ x ≤ 100000) (d : Int) : 0 ≤ ofC t d ∧ ofC t d ≤ 100000 := by
 unfold ofC
 by_cases h : d < 0
 ·rw [if_pos h]; omega
 rw [if_neg h]
 by_cases h2 : d < t.length
 ·rw [if_pos h2, List.getD_eq_getElem?_getD, List.getElem?_eq_getElem (by omega), Option.getD_some]
  exact ht _ (List.getElem_mem _)
 ·rw [if_neg h2]; omega
structure GV (N : Nat) (E : List api_Edge) (g : List Int) : Prop where
 pos : 1 ≤ N
 le : N ≤ 12
 ok : okG N E g = true
theorem GV.inE {N : Nat} {E : List api_Edge} {g : List Int} (h : GV N E g) : inE N E := by
 intro e he
 have := (okE_iff _ _ _).1 (((okG_iff _ _ _).1 h.ok).2.2.1 e he)
 exact ⟨this.1, this.2.1, this.2.2.1, this.2.2.2.1⟩
theorem GV.len {N : Nat} {E : List api_Edge} {g : List Int} (h : GV N E g) : E.length ≤ 500 := ((okG_iff _ _ _).1 h.ok).1.2.2
theorem GV.glen {N : Nat} {E : List api_Edge} {g : List Int} (h : GV N E g) : g.length ≤ 12 := by
 have h1 := ((okG_iff _ _ _).1 h.ok).2.1
 have := asc_len g 0 N h1.1 h1.2 (by omega)
 have := h.le; omega
theorem outs_asc : ∀ (E : List api_Edge) (x : Int), E.Pairwise (fun a b => bef a b = true) → (outs E x).Pairwise (· < ·)
 | [], _, _ => by simp [outs]
 | e :: E, x, h => by
  rw [List.pairwise_cons] at h
  have ih := outs_asc E x h.2
  by_cases q : e.From = x
  ·have : outs (e :: E) x = e.To :: outs E x := by unfold outs; simp [q]
   rw [this, List.pairwise_cons]
   refine ⟨fun y hy => ?_, ih⟩
   obtain ⟨e', h1, h2, h3⟩ := mem_outs.1 hy
   have := h.1 e' h1
   unfold bef at this; rw [decide_eq_true_eq] at this; omega
  ·have : outs (e :: E) x = outs E x := by unfold outs; simp [q]
   rw [this]; exact ih
theorem GV.outs {N : Nat} {E : List api_Edge} {g : List Int} (h : GV N E g) (x : Int) : (outs E x).length ≤ 12 := by
 have h1 := outs_asc E x ((okG_iff _ _ _).1 h.ok).2.2.2
 have := asc_len (Go.TF.outs E x) 0 N (fun y hy => by
  obtain ⟨e, q1, _, q3⟩ := mem_outs.1 hy
  have := h.inE e q1
  omega) h1 (by omega)
 have := h.le; omega
theorem outs_filter (E : List api_Edge) (p : api_Edge → Bool) (x : Int) : (outs (E.filter p) x).length ≤ (outs E x).length := by
 unfold outs
 rw [List.length_map, List.length_map]
 exact (List.filter_sublist.filter _).length_le
def cAll (N : Nat) (E : List api_Edge) (g s t : List Int) (lv : Int) : List Int := tab N fun v => ofC t (dE (E.filter (lvE lv)) (sS s g) N v)
theorem rAll_loop (k N : Nat) (s t : List Int) (lv : Int) (f : Int → Int) (hN : N ≤ 1000000) : ∀ (m i n : Nat), i + m = N → m < n → ref13_All.L1 k s t lv (tab N f) n (i : Int) (tab i fun v => ofC t (f v)) = some (tab N fun v => ofC t (f v))
 | 0, i, n + 1, h, _ => by
  have : i = N := by omega
  subst this
  rw [ref13_All.L1, if_neg (by simp)]
 | m + 1, i, n + 1, h, hn => by
  have ih := rAll_loop k N s t lv f hN m (i + 1) n (by omega) (by omega)
  rw [tab_succ] at ih
  rw [ref13_All.L1, if_pos (by simp; omega), idx_tab (by omega) (by omega), rOf13_eq, bnd1_some, chk_pos (by simp; omega), sc64 i (by omega)]
  exact ih
theorem rAll_eq (N : Nat) (E : List api_Edge) (g s t : List Int) (lv : Int) (G : GV N E g) (hs : s.length ≤ 200) (ht : t.length ≤ 200) : ref13_All 1000 (N : Int) E g s t lv = some (cAll N E g s t lv) := by
 have h1 := G.len; have h2 := G.glen; have h3 := G.le; have h4 := G.pos
 have hf : (E.filter (lvE lv)).length ≤ 500 := Nat.le_trans (List.length_filter_le _ _) h1
 unfold ref13_All
 rw [rLevel_eq 1000 N E g lv (by omega) (by omega) (by omega), bnd3_some, r12_eq 1000 N _ g s (fun e he => G.inE e (List.mem_filter.1 he).1) (by omega) (by omega) (by omega) (by omega) (by omega) (by omega) (by omega) (by omega), bnd1_some]
 exact rAll_loop 1000 N s t lv _ (by omega) N 0 1000 (by omega) (by omega)
theorem cAll_loop (k N : Nat) (s t : List Int) (lv : Int) (f : Int → Int) (hN : N ≤ 1000000) : ∀ (m i n : Nat), i + m = N → m < n → capacity_All.L1 k s t lv (tab N f) n (i : Int) (tab N fun v => if v < i then ofC t (f v) else f v) = some (tab N fun v => ofC t (f v))
 | 0, i, n + 1, h, _ => by
  have : i = N := by omega
  subst this
  rw [capacity_All.L1, if_neg (by simp)]
  congr 1
  exact tab_congr fun v _ h => by rw [if_pos h]
 | m + 1, i, n + 1, h, hn => by
  have ih := cAll_loop k N s t lv f hN m (i + 1) n (by omega) (by omega)
  rw [capacity_All.L1, if_pos (by simp; omega), chk_pos (by simp; omega), idx_tab (by omega) (by omega), if_neg (by omega), cOf_eq, bnd1_some, chk_pos (by simp; omega), sc64 i (by omega), tab_set (by omega), ← ih]
  congr 1
  refine tab_congr fun v _ _ => ?_
  by_cases q : v = (i : Int)
  ·subst q; rw [if_pos rfl, if_pos (by omega)]
  ·rw [if_neg q]
   by_cases q2 : v < (i : Int)
   ·rw [if_pos q2, if_pos (by omega)]
   ·rw [if_neg q2, if_neg (by omega)]
theorem pAll_eq (N : Nat) (E : List api_Edge) (g s t : List Int) (lv : Int) (G : GV N E g) (hs : s.length ≤ 200) (ht : t.length ≤ 200) (hsr : ∀ x ∈ s, 0 ≤ x ∧ x < N) : capacity_All 1000 (N : Int) E g s t lv = some (cAll N E g s t lv) := by
 have h1 := G.len; have h2 := G.glen; have h3 := G.le; have h4 := G.pos
 have hf : (E.filter (lvE lv)).length ≤ 500 := Nat.le_trans (List.length_filter_le _ _) h1
 unfold capacity_All
 rw [gLevel_eq 1000 N E g lv (by omega) (by omega) (by omega), bnd3_some, dAll_eq N _ g s h4 (by omega) hf (fun x => Nat.le_trans (outs_filter E _ x) (G.outs x)) (fun e he => G.inE e (List.mem_filter.1 he).1) (by omega) (by omega) hsr, bnd1_some]
 have := cAll_loop 1000 N s t lv (dE (E.filter (lvE lv)) (sS s g) N) (by omega) N 0 1000 (by omega) (by omega)
 rw [tab_congr (f := fun v => if v < ((0 : Nat) : Int) then ofC t (dE (E.filter (lvE lv)) (sS s g) N v) else dE (E.filter (lvE lv)) (sS s g) N v) (g := dE (E.filter (lvE lv)) (sS s g) N) (fun v h _ => by rw [if_neg (by omega)])] at this
 exact this
def mx0 (a : Int) : Int := if 0 < a then a else 0
def addB (Ev : List api_Edge) (s ks : List Int) (c : Int → Int) (x : Int) : Int :=
 if x ∈ ks then (if x ∈ s then c x else 0) else if (outs Ev x).any (fun y => decide (y ∈ ks)) then mx0 (c x - 1) else 0
def sumB (f : Int → Int) : Nat → Int
 | 0 => 0
 | n + 1 => sumB f n + f (n : Int)
theorem sumB_range {f : Int → Int} {M : Int} (hf : ∀ x, 0 ≤ f x ∧ f x ≤ M) : ∀ n : Nat, 0 ≤ sumB f n ∧ sumB f n ≤ n * M
 | 0 => by simp [sumB]
 | n + 1 => by
  have := sumB_range hf n
  have := hf (n : Int)
  rw [sumB]
  have e : ((n + 1 : Nat) : Int) * M = n * M + M := by rw [show ((n + 1 : Nat) : Int) = (n : Int) + 1 by omega, Int.add_mul]; omega
  omega
theorem sumB_congr {f g : Int → Int} : ∀ n : Nat, (∀ x : Int, 0 ≤ x → x < n → f x = g x) → sumB f n = sumB g n
 | 0, _ => rfl
 | n + 1, h => by rw [sumB, sumB, sumB_congr n fun x h1 h2 => h x h1 (by omega), h n (by omega) (by omega)]
theorem addB_range {Ev : List api_Edge} {s ks : List Int} {c : Int → Int} (hc : ∀ x, 0 ≤ c x ∧ c x ≤ 100000) (x : Int) : 0 ≤ addB Ev s ks c x ∧ addB Ev s ks c x ≤ 100000 := by
 have := hc x
 unfold addB mx0
 split
 ·split <;> omega
 ·split
  ·split <;> omega
  ·omega
theorem any_same {a b ks : List Int} (h : SameM a b) : (a.any fun y => decide (y ∈ ks)) = b.any fun y => decide (y ∈ ks) := by
 rw [Bool.eq_iff_iff, List.any_eq_true, List.any_eq_true]
 exact ⟨fun ⟨x, h1, h2⟩ => ⟨x, (h.2 x).1 h1, h2⟩, fun ⟨x, h1, h2⟩ => ⟨x, (h.2 x).2 h1, h2⟩⟩
theorem mxw {a : Int} (h0 : 0 ≤ a) (h : a ≤ 100000) : (if 0 < IntKind.wrap .i64 (a - 1) then IntKind.wrap .i64 (a - 1) else 0) = mx0 (a - 1) := by
 rw [w64 (by omega) (by omega)]; rfl
def cF (N : Nat) (E : List api_Edge) (g s t : List Int) (lv : Int) (v : Int) : Int := ofC t (dE (E.filter (lvE lv)) (sS s g) N v)
def bndF (N : Nat) (E : List api_Edge) (g s t : List Int) (lv : Int) (ks : List Int) : Int := sumB (addB (E.filter (lvE lv)) s ks (cF N E g s t lv)) N
end Go.TF
