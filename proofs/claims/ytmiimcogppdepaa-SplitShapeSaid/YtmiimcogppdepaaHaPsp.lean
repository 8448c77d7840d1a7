/- Plain laws: the networks of graphs, of the program and of the reference. -/
import Derived.Test.YtmiimcogppdepaaHaPca
set_option linter.unusedVariables false
set_option linter.unusedSimpArgs false
namespace Go.TF
open Go Go.Abs
structure GW (N : Nat) (E : List api_Edge) (g : List Int) : Prop where
 pos : 1 ≤ N
 le : N ≤ 64
 ok : okG N E g = true
 o12 : ∀ x, (outs E x).length ≤ 12
theorem GV.gw {N : Nat} {E : List api_Edge} {g : List Int} (h : GV N E g) : GW N E g := ⟨h.pos, by have := h.le; omega, h.ok, h.outs⟩
theorem GW.inE {N : Nat} {E : List api_Edge} {g : List Int} (h : GW N E g) : inE N E := by
 intro e he
 have := (okE_iff _ _ _).1 (((okG_iff _ _ _).1 h.ok).2.2.1 e he)
 exact ⟨this.1, this.2.1, this.2.2.1, this.2.2.2.1⟩
theorem GW.len {N : Nat} {E : List api_Edge} {g : List Int} (h : GW N E g) : E.length ≤ 500 := ((okG_iff _ _ _).1 h.ok).1.2.2
theorem GW.glen {N : Nat} {E : List api_Edge} {g : List Int} (h : GW N E g) : g.length ≤ 64 := by
 have h1 := ((okG_iff _ _ _).1 h.ok).2.1
 have := asc_len g 0 N h1.1 h1.2 (by omega)
 have := h.le; omega
theorem rAllW (N : Nat) (E : List api_Edge) (g s t : List Int) (lv : Int) (G : GW N E g) (hs : s.length ≤ 200) (ht : t.length ≤ 200) : ref13_All 1000 (N : Int) E g s t lv = some (cAll N E g s t lv) := by
 have h1 := G.len; have h2 := G.glen; have h3 := G.le; have h4 := G.pos
 have hf : (E.filter (lvE lv)).length ≤ 500 := Nat.le_trans (List.length_filter_le _ _) h1
 unfold ref13_All
 rw [rLevel_eq 1000 N E g lv (by omega) (by omega) (by omega), bnd3_some, r12_eq 1000 N _ g s (fun e he => G.inE e (List.mem_filter.1 he).1) (by omega) (by omega) (by omega) (by omega) (by omega) (by omega) (by omega) (by omega), bnd1_some]
 exact rAll_loop 1000 N s t lv _ (by omega) N 0 1000 (by omega) (by omega)
theorem pAllW (N : Nat) (E : List api_Edge) (g s t : List Int) (lv : Int) (G : GW N E g) (hs : s.length ≤ 200) (ht : t.length ≤ 200) (hsr : ∀ x ∈ s, 0 ≤ x ∧ x < N) : capacity_All 1000 (N : Int) E g s t lv = some (cAll N E g s t lv) := by
 have h1 := G.len; have h2 := G.glen; have h3 := G.le; have h4 := G.pos
 have hf : (E.filter (lvE lv)).length ≤ 500 := Nat.le_trans (List.length_filter_le _ _) h1
 unfold capacity_All
 rw [gLevel_eq 1000 N E g lv (by omega) (by omega) (by omega), bnd3_some, dAll_eq N _ g s h4 (by omega) hf (fun x => Nat.le_trans (outs_filter E _ x) (G.o12 x)) (fun e he => G.inE e (List.mem_filter.1 he).1) (by omega) (by omega) hsr, bnd1_some]
 have := cAll_loop 1000 N s t lv (dE (E.filter (lvE lv)) (sS s g) N) (by omega) N 0 1000 (by omega) (by omega)
 rw [tab_congr (f := fun v => if v < ((0 : Nat) : Int) then ofC t (dE (E.filter (lvE lv)) (sS s g) N v) else dE (E.filter (lvE lv)) (sS s g) N v) (g := dE (E.filter (lvE lv)) (sS s g) N) (fun v h _ => by rw [if_neg (by omega)])] at this
 exact this
theorem sEntry_eq (k : Nat) (x : Int) (h : -1000 ≤ x ∧ x ≤ 1000) : split_Entry k x = some (2 + 2 * x) := by
 unfold split_Entry; rw [w64 (n := 2 * x) (by omega) (by omega), w64 (by omega) (by omega)]
theorem sExit_eq (k : Nat) (x : Int) (h : -1000 ≤ x ∧ x ≤ 1000) : split_Exit k x = some (3 + 2 * x) := by
 unfold split_Exit; rw [sEntry_eq k x h, bnd1_some, w64 (by omega) (by omega)]; congr 1; omega
theorem arc1_eq (k : Nat) (a b c : Int) (N : Int) (acc : List api_Arc) (h : acc.length ≤ 100000) : split_Network_1 k a b c N acc = some (acc ++ [⟨a, b, c⟩]) := by
 unfold split_Network_1; rw [chk_pos (by simp only [List.length_cons, List.length_nil]; omega)]
def arS (c : Int → Int) (x : Int) : api_Arc := ⟨0, 2 + 2 * x, c x⟩
def arI (c : Int → Int) (x : Int) : api_Arc := ⟨2 + 2 * x, 3 + 2 * x, c x - 1⟩
def arT (x : Int) : api_Arc := ⟨2 + 2 * x, 1, 1⟩
def arE (e : api_Edge) : api_Arc := ⟨3 + 2 * e.From, 2 + 2 * e.To, 64⟩
def nums (N : Nat) : List Int := (List.range N).map fun (v : Nat) => (v : Int)
def arcsF (N : Nat) (P : Int → Bool) (c : Int → Int) (s ks : List Int) (Ev : List api_Edge) : List api_Arc :=
 (s.filter P).map (arS c) ++ ((nums N).filter P).map (arI c) ++ (ks.filter P).map arT ++ (Ev.filter fun e => P e.From).map arE
theorem nums_len (N : Nat) : (nums N).length = N := by simp [nums]
theorem nums_drop (N i : Nat) (h : i < N) : (nums N).drop i = (i : Int) :: (nums N).drop (i + 1) := by
 rw [List.drop_eq_getElem_cons (by rw [nums_len]; exact h)]
 congr 1; simp [nums]
theorem mem_nums {N : Nat} {x : Int} : x ∈ nums N ↔ 0 ≤ x ∧ x < N := by
 unfold nums; simp only [List.mem_map, List.mem_range]
 constructor
 ·rintro ⟨a, h, rfl⟩; omega
 ·rintro ⟨h0, h1⟩; exact ⟨x.toNat, by omega, by omega⟩
theorem fm_cons {α β : Type} (P : α → Bool) (f : α → β) (x : α) (l : List α) (acc : List β) : acc ++ ((x :: l).filter P).map f = (if P x then acc ++ [f x] else acc) ++ (l.filter P).map f := by
 by_cases h : P x = true
 ·rw [List.filter_cons_of_pos h, if_pos h]; simp
 ·rw [List.filter_cons_of_neg h, if_neg h]
section
variable (N : Nat) (P : Int → Bool) (c : Int → Int) (hN : N ≤ 64)
include hN
theorem pN_L7 (hc : ∀ x : Int, 0 ≤ x → x < N → (0 < c x ↔ P x = true)) (nd : Int) (Ev : List api_Edge) (hE : inE N Ev) (h9 : Ev.length ≤ 1000) : ∀ (m i n : Nat) (acc : List api_Arc), i + m = Ev.length → m < n → acc.length + m ≤ 100000 →
 split_Network.L7 1000 nd (tab N c) Ev n (i : Int) acc = some (nd, acc ++ ((Ev.drop i).filter fun e => P e.From).map arE, 0)
 | 0, i, n + 1, acc, h, _, _ => by rw [split_Network.L7, if_neg (by omega), List.drop_eq_nil_of_le (by omega)]; simp
 | m + 1, i, n + 1, acc, h, hn, hl => by
  have hi : i < Ev.length := by omega
  have he := hE _ (List.getElem_mem hi)
  rw [split_Network.L7, if_pos (by omega), idx_pos hi, idx_tab (by omega) (by omega), List.drop_eq_getElem_cons hi, fm_cons (fun e : api_Edge => P e.From)]
  unfold split_Network.J8
  by_cases q : 0 < c Ev[i].From
  ·rw [if_pos q, if_pos ((hc _ he.1 he.2.1).1 q), sExit_eq 1000 _ (by omega), bnd1_some, sEntry_eq 1000 _ (by omega), bnd1_some, arc1_eq 1000 _ _ _ _ _ (by omega), bnd1_some, sc64 i (by omega)]
   exact pN_L7 hc nd Ev hE h9 m (i + 1) n _ (by omega) (by omega) (by simp only [List.length_append, List.length_cons, List.length_nil]; omega)
  ·rw [if_neg q, if_neg (fun z => q ((hc _ he.1 he.2.1).2 z)), sc64 i (by omega)]
   exact pN_L7 hc nd Ev hE h9 m (i + 1) n _ (by omega) (by omega) (by omega)
theorem pN_L5 (hc : ∀ x : Int, 0 ≤ x → x < N → (0 < c x ↔ P x = true)) (N' : Int) (E : List api_Edge) (g : List Int) (lv : Int) (nd : Int) (ks : List Int) (hk : ∀ x ∈ ks, 0 ≤ x ∧ x < N) (h9 : ks.length ≤ 900) : ∀ (m i n : Nat) (acc : List api_Arc), i + m = ks.length → m < n → acc.length + m ≤ 10000 →
 split_Network.L5 1000 N' E g lv ks nd (tab N c) n (i : Int) acc = bnd3 (graph_Level_o 1000 N' E g lv) fun v35 v36 v37 => split_Network.L7 1000 nd (tab N c) v36 1000 0 (acc ++ ((ks.drop i).filter P).map arT)
 | 0, i, n + 1, acc, h, _, _ => by rw [split_Network.L5, if_neg (by omega), List.drop_eq_nil_of_le (by omega)]; simp
 | m + 1, i, n + 1, acc, h, hn, hl => by
  have hi : i < ks.length := by omega
  have he := hk _ (List.getElem_mem hi)
  rw [split_Network.L5, if_pos (by omega), idx_pos hi, idx_tab (by omega) (by omega), List.drop_eq_getElem_cons hi, fm_cons P]
  unfold split_Network.J6
  by_cases q : 0 < c ks[i]
  ·rw [if_pos q, if_pos ((hc _ he.1 he.2).1 q), sEntry_eq 1000 _ (by omega), bnd1_some, arc1_eq 1000 _ _ _ _ _ (by omega), bnd1_some, sc64 i (by omega)]
   exact pN_L5 hc N' E g lv nd ks hk h9 m (i + 1) n _ (by omega) (by omega) (by simp only [List.length_append, List.length_cons, List.length_nil]; omega)
  ·rw [if_neg q, if_neg (fun z => q ((hc _ he.1 he.2).2 z)), sc64 i (by omega)]
   exact pN_L5 hc N' E g lv nd ks hk h9 m (i + 1) n _ (by omega) (by omega) (by omega)
theorem pN_L3 (hc : ∀ x : Int, 0 ≤ x → x < N → (0 < c x ↔ P x = true)) (h9 : ∀ x, c x ≤ 100000) (N' : Int) (E : List api_Edge) (g : List Int) (lv : Int) (nd : Int) (ks : List Int) : ∀ (m i n : Nat) (acc : List api_Arc), i + m = N → m < n → acc.length + m ≤ 10000 →
 split_Network.L3 1000 N' E g lv ks nd (tab N c) n (i : Int) acc = split_Network.L5 1000 N' E g lv ks nd (tab N c) 1000 0 (acc ++ (((nums N).drop i).filter P).map (arI c))
 | 0, i, n + 1, acc, h, _, _ => by rw [split_Network.L3, if_neg (by rw [tab_len]; omega), List.drop_eq_nil_of_le (by rw [nums_len]; omega)]; simp
 | m + 1, i, n + 1, acc, h, hn, hl => by
  rw [split_Network.L3, if_pos (by rw [tab_len]; omega), idx_tab (by omega) (by omega), nums_drop N i (by omega), fm_cons P]
  unfold split_Network.J4
  by_cases q : 0 < c (i : Int)
  ·have := h9 (i : Int)
   rw [if_pos q, if_pos ((hc _ (by omega) (by omega)).1 q), sEntry_eq 1000 _ (by omega), bnd1_some, sExit_eq 1000 _ (by omega), bnd1_some, w64 (by omega) (by omega), arc1_eq 1000 _ _ _ _ _ (by omega), bnd1_some, sc64 i (by omega)]
   exact pN_L3 hc h9 N' E g lv nd ks m (i + 1) n _ (by omega) (by omega) (by simp only [List.length_append, List.length_cons, List.length_nil]; omega)
  ·rw [if_neg q, if_neg (fun z => q ((hc _ (by omega) (by omega)).2 z)), sc64 i (by omega)]
   exact pN_L3 hc h9 N' E g lv nd ks m (i + 1) n _ (by omega) (by omega) (by omega)
theorem pN_L1 (hc : ∀ x : Int, 0 ≤ x → x < N → (0 < c x ↔ P x = true)) (N' : Int) (E : List api_Edge) (g s : List Int) (lv : Int) (nd : Int) (ks : List Int) (hs : ∀ x ∈ s, 0 ≤ x ∧ x < N) (h9 : s.length ≤ 900) : ∀ (m i n : Nat) (acc : List api_Arc), i + m = s.length → m < n → acc.length + m ≤ 10000 →
 split_Network.L1 1000 N' E g s lv ks nd (tab N c) n (i : Int) acc = split_Network.L3 1000 N' E g lv ks nd (tab N c) 1000 0 (acc ++ ((s.drop i).filter P).map (arS c))
 | 0, i, n + 1, acc, h, _, _ => by rw [split_Network.L1, if_neg (by omega), List.drop_eq_nil_of_le (by omega)]; simp
 | m + 1, i, n + 1, acc, h, hn, hl => by
  have hi : i < s.length := by omega
  have he := hs _ (List.getElem_mem hi)
  rw [split_Network.L1, if_pos (by omega), idx_pos hi, idx_tab (by omega) (by omega), List.drop_eq_getElem_cons hi, fm_cons P]
  unfold split_Network.J2
  by_cases q : 0 < c s[i]
  ·rw [if_pos q, if_pos ((hc _ he.1 he.2).1 q), sEntry_eq 1000 _ (by omega), bnd1_some, arc1_eq 1000 _ _ _ _ _ (by omega), bnd1_some, sc64 i (by omega)]
   exact pN_L1 hc N' E g s lv nd ks hs h9 m (i + 1) n _ (by omega) (by omega) (by simp only [List.length_append, List.length_cons, List.length_nil]; omega)
  ·rw [if_neg q, if_neg (fun z => q ((hc _ he.1 he.2).2 z)), sc64 i (by omega)]
   exact pN_L1 hc N' E g s lv nd ks hs h9 m (i + 1) n _ (by omega) (by omega) (by omega)
end
theorem lv_idem (E : List api_Edge) (lv : Int) : (E.filter (lvE lv)).filter (lvE lv) = E.filter (lvE lv) := by simp
theorem filt_len (P : Int → Bool) (l : List Int) (f : Int → api_Arc) : ((l.filter P).map f).length ≤ l.length := by rw [List.length_map]; exact List.length_filter_le _ _
def rchF (N : Nat) (E : List api_Edge) (g s : List Int) (lv : Int) (v : Int) : Bool := decide (0 ≤ dE (E.filter (lvE lv)) (sS s g) N v)
def netF (N : Nat) (E : List api_Edge) (g s t : List Int) (lv : Int) (ks : List Int) : List api_Arc := arcsF N (rchF N E g s lv) (cF N E g s t lv) s ks (E.filter (lvE lv))
theorem cF_pos {N : Nat} {E : List api_Edge} {g s t : List Int} {lv : Int} (ht : ∀ x ∈ t, 1 ≤ x) (v : Int) : (0 < cF N E g s t lv v ↔ rchF N E g s lv v = true) := by
 unfold cF rchF
 rw [decide_eq_true_eq]
 by_cases h : 0 ≤ dE (E.filter (lvE lv)) (sS s g) N v
 ·obtain ⟨i, hi⟩ := Int.eq_ofNat_of_zero_le h
  have : 1 ≤ ofC t (dE (E.filter (lvE lv)) (sS s g) N v) := by
   rw [hi]; unfold ofC; rw [if_neg (by omega)]
   by_cases q : (i : Int) < t.length
   ·rw [if_pos q, List.getD_eq_getElem?_getD, List.getElem?_eq_getElem (by omega), Option.getD_some]
    exact ht _ (List.getElem_mem _)
   ·rw [if_neg q]; omega
  omega
 ·have : ofC t (dE (E.filter (lvE lv)) (sS s g) N v) = 0 := by unfold ofC; rw [if_pos (by omega)]
  omega
theorem pNet_eq (N : Nat) (E : List api_Edge) (g s t : List Int) (lv : Int) (ks : List Int) (G : GW N E g) (hs : s.length ≤ 200) (hks : ks.length ≤ 200) (hp : polF N s t lv = true) :
 split_Network 1000 (N : Int) E g s t lv ks = some (if setF N none ks then (2 + 2 * (N : Int), netF N E g s t lv ks, 0) else (0, [], 4)) := by
 have hg := G.glen; have hE := G.len; have hN := G.le
 unfold split_Network
 rw [cCheck_eq 1000 N E g s t lv (by omega) (by omega) (by omega) (by omega) (by omega), bnd1_some, if_pos G.ok, if_pos hp, if_neg (by simp), rise_eq 1000 ks N (by omega) (by omega) (by omega), bnd1_some]
 unfold polF at hp
 rw [Bool.and_eq_true, Bool.and_eq_true, decide_eq_true_eq, setF_iff, tbF_iff'] at hp
 obtain ⟨⟨p1, p2, p3, p4, p5⟩, ⟨p6, p7⟩, p8, p9, _⟩ := hp
 by_cases h : setF N none ks = true
 ·rw [if_neg (by simp [h]), if_pos h, sEntry_eq 1000 _ (by omega), bnd1_some, pAllW N E g s t lv G hs (by omega) p6, bnd1_some]
  obtain ⟨k1, k2⟩ := (setF_iff _ _).1 h
  have hc : ∀ x : Int, 0 ≤ x → x < N → (0 < cF N E g s t lv x ↔ rchF N E g s lv x = true) := fun x _ _ => cF_pos (fun y hy => (p8 y hy).1) x
  have c9 : ∀ x, cF N E g s t lv x ≤ 100000 := fun x => (ofC_range (fun y hy => by have := p8 y hy; omega) _).2
  have hf : (E.filter (lvE lv)).length ≤ 500 := Nat.le_trans (List.length_filter_le _ _) hE
  have l1 := filt_len (rchF N E g s lv) s (arS (cF N E g s t lv))
  have l2 := filt_len (rchF N E g s lv) (nums N) (arI (cF N E g s t lv))
  have l3 := filt_len (rchF N E g s lv) ks arT
  rw [nums_len] at l2
  have e1 := pN_L1 N (rchF N E g s lv) (cF N E g s t lv) hN hc (N : Int) E g s lv (2 + 2 * (N : Int)) ks p6 (by omega) s.length 0 1000 [] (by omega) (by omega) (by simp only [List.length_nil]; omega)
  have e3 := pN_L3 N (rchF N E g s lv) (cF N E g s t lv) hN hc c9 (N : Int) E g lv (2 + 2 * (N : Int)) ks N 0 1000 ((s.filter (rchF N E g s lv)).map (arS (cF N E g s t lv))) (by omega) (by omega) (by omega)
  have e5 := pN_L5 N (rchF N E g s lv) (cF N E g s t lv) hN hc (N : Int) E g lv (2 + 2 * (N : Int)) ks k1 (by omega) ks.length 0 1000 ((s.filter (rchF N E g s lv)).map (arS (cF N E g s t lv)) ++ ((nums N).filter (rchF N E g s lv)).map (arI (cF N E g s t lv))) (by omega) (by omega) (by rw [List.length_append]; omega)
  have e7 := pN_L7 N (rchF N E g s lv) (cF N E g s t lv) hN hc (2 + 2 * (N : Int)) (E.filter (lvE lv)) (fun e he => G.inE e (List.mem_filter.1 he).1) (by omega) (E.filter (lvE lv)).length 0 1000 ((s.filter (rchF N E g s lv)).map (arS (cF N E g s t lv)) ++ ((nums N).filter (rchF N E g s lv)).map (arI (cF N E g s t lv)) ++ (ks.filter (rchF N E g s lv)).map arT) (by omega) (by omega) (by rw [List.length_append, List.length_append]; omega)
  rw [List.drop_zero] at e1 e3 e5 e7
  rw [List.nil_append] at e1
  refine Eq.trans e1 (Eq.trans e3 (Eq.trans e5 ?_))
  rw [gLevel_eq 1000 (N : Int) E g lv (by omega) (by omega) (by omega), bnd3_some]
  exact e7
 ·rw [if_pos (by simpa using h), if_neg h]
theorem net_len (N : Nat) (E : List api_Edge) (g s t : List Int) (lv : Int) (ks : List Int) : (netF N E g s t lv ks).length ≤ s.length + N + ks.length + E.length := by
 have l1 := filt_len (rchF N E g s lv) s (arS (cF N E g s t lv))
 have l2 := filt_len (rchF N E g s lv) (nums N) (arI (cF N E g s t lv))
 have l3 := filt_len (rchF N E g s lv) ks arT
 have l4 : (((E.filter (lvE lv)).filter fun e => rchF N E g s lv e.From).map arE).length ≤ E.length := by
  rw [List.length_map]; exact Nat.le_trans (List.length_filter_le _ _) (List.length_filter_le _ _)
 rw [nums_len] at l2
 unfold netF arcsF
 rw [List.length_append, List.length_append, List.length_append]; omega
theorem awake14 : law14_awake 1000 = some true := by decide +kernel
end Go.TF
