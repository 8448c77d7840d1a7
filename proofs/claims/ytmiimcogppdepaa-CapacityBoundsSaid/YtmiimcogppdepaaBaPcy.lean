/- Plain laws: capacities and the bound, of the program and of the reference; made graphs and policies. -/
import Derived.Test.YtmiimcogppdepaaBaPds
set_option linter.unusedVariables false
set_option linter.unusedSimpArgs false
namespace Go.TF
open Go Go.Abs
def ofC (t : List Int) (d : Int) : Int := if d < 0 then 0 else if d < t.length then t.getD d.toNat 0 else 1
theorem cOf_eq (k : Nat) (s t : List Int) (l d : Int) : capacity_Of k s t l d = some (ofC t d) := by
 unfold capacity_Of ofC
 by_cases h : d < 0
 ·rw [if_pos h, if_pos h]
 rw [if_neg h, if_neg h]
 by_cases h2 : d < t.length
 ·obtain ⟨i, rfl⟩ := Int.eq_ofNat_of_zero_le (show 0 ≤ d by omega)
  have h3 : i < t.length := by omega
  rw [if_pos h2, if_pos h2, idx_pos h3]
  simp [List.getD_eq_getElem?_getD, List.getElem?_eq_getElem h3]
 ·rw [if_neg h2, if_neg h2]
theorem ofC_range {t : List Int} (ht : ∀ x ∈ t, 0 ≤ x ∧ x ≤ 100000) (d : Int) : 0 ≤ ofC t d ∧ ofC t d ≤ 100000 := by
 unfold ofC
 by_cases h : d < 0
 ·rw [if_pos h]; omega
 rw [if_neg h]
 by_cases h2 : d < t.length
 ·rw [if_pos h2, List.getD_eq_getElem?_getD, List.getElem?_eq_getElem (by omega), Option.getD_some]
  exact ht _ (List.getElem_mem _)
 ·rw [if_neg h2]; omega
structure GV (N : Nat) (E : List api_Edge) (g : List Int) : Prop where
 pos : 1 ≤ N
 le : N ≤ 12
 ok : okG N E g = true
theorem GV.inE {N : Nat} {E : List api_Edge} {g : List Int} (h : GV N E g) : inE N E := by
 intro e he
 have := (okE_iff _ _ _).1 (((okG_iff _ _ _).1 h.ok).2.2.1 e he)
 exact ⟨this.1, this.2.1, this.2.2.1, this.2.2.2.1⟩
theorem GV.len {N : Nat} {E : List api_Edge} {g : List Int} (h : GV N E g) : E.length ≤ 500 := ((okG_iff _ _ _).1 h.ok).1.2.2
theorem GV.glen {N : Nat} {E : List api_Edge} {g : List Int} (h : GV N E g) : g.length ≤ 12 := by
 have h1 := ((okG_iff _ _ _).1 h.ok).2.1
 have := asc_len g 0 N h1.1 h1.2 (by omega)
 have := h.le; omega
theorem outs_asc : ∀ (E : List api_Edge) (x : Int), E.Pairwise (fun a b => bef a b = true) → (outs E x).Pairwise (· < ·)
 | [], _, _ => by simp [outs]
 | e :: E, x, h => by
  rw [List.pairwise_cons] at h
  have ih := outs_asc E x h.2
  by_cases q : e.From = x
  ·have : outs (e :: E) x = e.To :: outs E x := by unfold outs; simp [q]
   rw [this, List.pairwise_cons]
   refine ⟨fun y hy => ?_, ih⟩
   obtain ⟨e', h1, h2, h3⟩ := mem_outs.1 hy
   have := h.1 e' h1
   unfold bef at this; rw [decide_eq_true_eq] at this; omega
  ·have : outs (e :: E) x = outs E x := by unfold outs; simp [q]
   rw [this]; exact ih
theorem GV.outs {N : Nat} {E : List api_Edge} {g : List Int} (h : GV N E g) (x : Int) : (outs E x).length ≤ 12 := by
 have h1 := outs_asc E x ((okG_iff _ _ _).1 h.ok).2.2.2
 have := asc_len (Go.TF.outs E x) 0 N (fun y hy => by
  obtain ⟨e, q1, _, q3⟩ := mem_outs.1 hy
  have := h.inE e q1
  omega) h1 (by omega)
 have := h.le; omega
theorem outs_filter (E : List api_Edge) (p : api_Edge → Bool) (x : Int) : (outs (E.filter p) x).length ≤ (outs E x).length := by
 unfold outs
 rw [List.length_map, List.length_map]
 exact (List.filter_sublist.filter _).length_le
def cAll (N : Nat) (E : List api_Edge) (g s t : List Int) (lv : Int) : List Int := tab N fun v => ofC t (dE (E.filter (lvE lv)) (sS s g) N v)
theorem cAll_loop (k N : Nat) (s t : List Int) (lv : Int) (f : Int → Int) (hN : N ≤ 1000000) : ∀ (m i n : Nat), i + m = N → m < n → capacity_All.L1 k s t lv (tab N f) n (i : Int) (tab N fun v => if v < i then ofC t (f v) else f v) = some (tab N fun v => ofC t (f v))
 | 0, i, n + 1, h, _ => by
  have : i = N := by omega
  subst this
  rw [capacity_All.L1, if_neg (by simp)]
  congr 1
  exact tab_congr fun v _ h => by rw [if_pos h]
 | m + 1, i, n + 1, h, hn => by
  have ih := cAll_loop k N s t lv f hN m (i + 1) n (by omega) (by omega)
  rw [capacity_All.L1, if_pos (by simp; omega), chk_pos (by simp; omega), idx_tab (by omega) (by omega), if_neg (by omega), cOf_eq, bnd1_some, chk_pos (by simp; omega), sc64 i (by omega), tab_set (by omega), ← ih]
  congr 1
  refine tab_congr fun v _ _ => ?_
  by_cases q : v = (i : Int)
  ·subst q; rw [if_pos rfl, if_pos (by omega)]
  ·rw [if_neg q]
   by_cases q2 : v < (i : Int)
   ·rw [if_pos q2, if_pos (by omega)]
   ·rw [if_neg q2, if_neg (by omega)]
theorem pAll_eq (N : Nat) (E : List api_Edge) (g s t : List Int) (lv : Int) (G : GV N E g) (hs : s.length ≤ 200) (ht : t.length ≤ 200) (hsr : ∀ x ∈ s, 0 ≤ x ∧ x < N) : capacity_All 1000 (N : Int) E g s t lv = some (cAll N E g s t lv) := by
 have h1 := G.len; have h2 := G.glen; have h3 := G.le; have h4 := G.pos
 have hf : (E.filter (lvE lv)).length ≤ 500 := Nat.le_trans (List.length_filter_le _ _) h1
 unfold capacity_All
 rw [gLevel_eq 1000 N E g lv (by omega) (by omega) (by omega), bnd3_some, dAll_eq N _ g s h4 (by omega) hf (fun x => Nat.le_trans (outs_filter E _ x) (G.outs x)) (fun e he => G.inE e (List.mem_filter.1 he).1) (by omega) (by omega) hsr, bnd1_some]
 have := cAll_loop 1000 N s t lv (dE (E.filter (lvE lv)) (sS s g) N) (by omega) N 0 1000 (by omega) (by omega)
 rw [tab_congr (f := fun v => if v < ((0 : Nat) : Int) then ofC t (dE (E.filter (lvE lv)) (sS s g) N v) else dE (E.filter (lvE lv)) (sS s g) N v) (g := dE (E.filter (lvE lv)) (sS s g) N) (fun v h _ => by rw [if_neg (by omega)])] at this
 exact this
def mx0 (a : Int) : Int := if 0 < a then a else 0
def addB (Ev : List api_Edge) (s ks : List Int) (c : Int → Int) (x : Int) : Int :=
 if x ∈ ks then (if x ∈ s then c x else 0) else if (outs Ev x).any (fun y => decide (y ∈ ks)) then mx0 (c x - 1) else 0
def sumB (f : Int → Int) : Nat → Int
 | 0 => 0
 | n + 1 => sumB f n + f (n : Int)
theorem sumB_range {f : Int → Int} {M : Int} (hf : ∀ x, 0 ≤ f x ∧ f x ≤ M) : ∀ n : Nat, 0 ≤ sumB f n ∧ sumB f n ≤ n * M
 | 0 => by simp [sumB]
 | n + 1 => by
  have := sumB_range hf n
  have := hf (n : Int)
  rw [sumB]
  have e : ((n + 1 : Nat) : Int) * M = n * M + M := by rw [show ((n + 1 : Nat) : Int) = (n : Int) + 1 by omega, Int.add_mul]; omega
  omega
theorem sumB_congr {f g : Int → Int} : ∀ n : Nat, (∀ x : Int, 0 ≤ x → x < n → f x = g x) → sumB f n = sumB g n
 | 0, _ => rfl
 | n + 1, h => by rw [sumB, sumB, sumB_congr n fun x h1 h2 => h x h1 (by omega), h n (by omega) (by omega)]
theorem addB_range {Ev : List api_Edge} {s ks : List Int} {c : Int → Int} (hc : ∀ x, 0 ≤ c x ∧ c x ≤ 100000) (x : Int) : 0 ≤ addB Ev s ks c x ∧ addB Ev s ks c x ≤ 100000 := by
 have := hc x
 unfold addB mx0
 split
 ·split <;> omega
 ·split
  ·split <;> omega
  ·omega
theorem bIdx_loop (k : Nat) (l ks : List Int) (h9 : l.length ≤ 1000000) (hk : ks.length < k) (hk9 : ks.length ≤ 1000000) : ∀ (m i n : Nat), i + m = l.length → m < n → ∃ r, slices_IndexFunc_int_int_Bound_1.L1 k l ks n (i : Int) = some r ∧ (0 ≤ r ↔ (l.drop i).any (fun y => decide (y ∈ ks)) = true)
 | 0, i, n + 1, h, _ => by rw [slices_IndexFunc_int_int_Bound_1.L1, if_neg (by omega), List.drop_eq_nil_of_le (by omega)]; exact ⟨_, rfl, by simp⟩
 | m + 1, i, n + 1, h, hn => by
  have hi : i < l.length := by omega
  have hb : capacity_Bound_1 k l[i] ks = some (decide (l[i] ∈ ks)) := by unfold capacity_Bound_1; rw [sContains_eq k ks _ hk hk9, bnd1_some]
  rw [slices_IndexFunc_int_int_Bound_1.L1, if_pos (by omega), idx_pos hi, hb, bnd1_some, List.drop_eq_getElem_cons hi, List.any_cons]
  by_cases e : l[i] ∈ ks
  ·rw [if_pos (by simpa using e)]; exact ⟨_, rfl, by simp [e]⟩
  ·rw [if_neg (by simpa using e), sc64 i (by omega)]
   obtain ⟨r, h1, h2⟩ := bIdx_loop k l ks h9 hk hk9 m (i + 1) n (by omega) (by omega)
   exact ⟨r, h1, by rw [h2]; simp [e]⟩
theorem bCont_eq (k : Nat) (l ks : List Int) (hl : l.length < k) (h9 : l.length ≤ 1000000) (hk : ks.length < k) (hk9 : ks.length ≤ 1000000) : slices_ContainsFunc_int_int_Bound_1 k l ks = some (l.any fun y => decide (y ∈ ks)) := by
 unfold slices_ContainsFunc_int_int_Bound_1 slices_IndexFunc_int_int_Bound_1
 obtain ⟨r, h1, h2⟩ := bIdx_loop k l ks h9 hk hk9 l.length 0 k (by omega) hl
 rw [show (0 : Int) = ((0 : Nat) : Int) from rfl, h1, bnd1_some]
 simp only [List.drop_zero] at h2
 congr 1
 by_cases q : 0 ≤ r
 ·rw [h2.1 q]; simpa using q
 ·cases hb : (l.any fun y => decide (y ∈ ks)) with
  | true => exact absurd (h2.2 hb) q
  | false => simpa using q
theorem any_same {a b ks : List Int} (h : SameM a b) : (a.any fun y => decide (y ∈ ks)) = b.any fun y => decide (y ∈ ks) := by
 rw [Bool.eq_iff_iff, List.any_eq_true, List.any_eq_true]
 exact ⟨fun ⟨x, h1, h2⟩ => ⟨x, (h.2 x).1 h1, h2⟩, fun ⟨x, h1, h2⟩ => ⟨x, (h.2 x).2 h1, h2⟩⟩
theorem mxw {a : Int} (h0 : 0 ≤ a) (h : a ≤ 100000) : (if 0 < IntKind.wrap .i64 (a - 1) then IntKind.wrap .i64 (a - 1) else 0) = mx0 (a - 1) := by
 rw [w64 (by omega) (by omega)]; rfl
theorem cB_loop (k N : Nat) (s ks : List Int) (c : Int → Int) (Ev : List api_Edge) (g : List Int) (NN : Int) (hN : N ≤ 100) (h9 : Ev.length ≤ 1000) (hE : Ev.length < k) (ho : ∀ x, (outs Ev x).length ≤ 12) (h20 : 20 < k) (hs : s.length < k) (hs9 : s.length ≤ 1000000) (hks : ks.length < k) (hks9 : ks.length ≤ 1000000) (hc : ∀ x, 0 ≤ c x ∧ c x ≤ 100000) :
 ∀ (m i n : Nat), i + m = N → m < n → capacity_Bound.L1 k s ks (tab N c) NN Ev g n (sumB (addB Ev s ks c) i) (i : Int) = some (sumB (addB Ev s ks c) N)
 | 0, i, n + 1, h, _ => by
  have : i = N := by omega
  subst this
  rw [capacity_Bound.L1, if_neg (by simp)]
 | m + 1, i, n + 1, h, hn => by
  have ih := cB_loop k N s ks c Ev g NN hN h9 hE ho h20 hs hs9 hks hks9 hc m (i + 1) n (by omega) (by omega)
  have hci := hc (i : Int)
  have hsum := sumB_range (addB_range (Ev := Ev) (s := s) (ks := ks) hc) i
  have hadd := addB_range (Ev := Ev) (s := s) (ks := ks) hc (i : Int)
  have hw : IntKind.wrap .i64 (sumB (addB Ev s ks c) i + addB Ev s ks c (i : Int)) = sumB (addB Ev s ks c) (i + 1) := by
   rw [w64 (by omega) (by omega)]; rfl
  rw [capacity_Bound.L1, if_pos (by simp; omega), idx_tab (by omega) (by omega), sContains_eq k ks _ hks hks9, bnd1_some]
  unfold capacity_Bound.J2
  simp only [sc64 i (by omega), sContains_eq k s _ hs hs9, bnd1_some]
  by_cases a1 : (i : Int) ∈ ks
  ·rw [if_pos (by simpa using a1)]
   by_cases a2 : (i : Int) ∈ s
   ·have e : addB Ev s ks c (i : Int) = c (i : Int) := by unfold addB; rw [if_pos a1, if_pos a2]
    rw [if_pos (by simpa using a2), ← e, hw]; exact ih
   ·have e : addB Ev s ks c (i : Int) = 0 := by unfold addB; rw [if_pos a1, if_neg a2]
    rw [sumB, e] at ih
    rw [if_neg (by simpa using a2)]; simpa using ih
  ·rw [if_neg (by simpa using a1)]
   obtain ⟨l, e1, e2⟩ := out_eq k NN Ev g (i : Int) (by omega) hE (ho _) h20
   have hol := ho (i : Int)
   rw [e1, bnd1_some, bCont_eq k l ks (by rw [e2.1]; omega) (by rw [e2.1]; omega) hks hks9, bnd1_some, any_same e2]
   by_cases a2 : ((outs Ev (i : Int)).any fun y => decide (y ∈ ks)) = true
   ·have e : addB Ev s ks c (i : Int) = mx0 (c (i : Int) - 1) := by unfold addB; rw [if_neg a1, if_pos a2]
    rw [if_pos a2, let1_eq, mxw hci.1 hci.2, ← e, hw]; exact ih
   ·have e : addB Ev s ks c (i : Int) = 0 := by unfold addB; rw [if_neg a1, if_neg a2]
    rw [sumB, e] at ih
    rw [if_neg a2]; simpa using ih
def cF (N : Nat) (E : List api_Edge) (g s t : List Int) (lv : Int) (v : Int) : Int := ofC t (dE (E.filter (lvE lv)) (sS s g) N v)
def bndF (N : Nat) (E : List api_Edge) (g s t : List Int) (lv : Int) (ks : List Int) : Int := sumB (addB (E.filter (lvE lv)) s ks (cF N E g s t lv)) N
theorem pBound_eq (N : Nat) (E : List api_Edge) (g s t : List Int) (lv : Int) (ks : List Int) (G : GV N E g) (hs : s.length ≤ 200) (ht : t.length ≤ 200) (hks : ks.length ≤ 200) (hsr : ∀ x ∈ s, 0 ≤ x ∧ x < N) (htr : ∀ x ∈ t, 0 ≤ x ∧ x ≤ 100000) :
 capacity_Bound 1000 (N : Int) E g s t lv ks = some (bndF N E g s t lv ks) := by
 have h1 := G.len; have h2 := G.glen; have h3 := G.le; have h4 := G.pos
 have hf : (E.filter (lvE lv)).length ≤ 500 := Nat.le_trans (List.length_filter_le _ _) h1
 unfold capacity_Bound
 rw [pAll_eq N E g s t lv G hs ht hsr, bnd1_some, gLevel_eq 1000 N E g lv (by omega) (by omega) (by omega), bnd3_some]
 exact cB_loop 1000 N s ks (cF N E g s t lv) _ g N (by omega) (by omega) (by omega) (fun x => Nat.le_trans (outs_filter E _ x) (G.outs x)) (by omega) (by omega) (by omega) (by omega) (by omega) (fun x => ofC_range htr _) N 0 1000 (by omega) (by omega)
end Go.TF
