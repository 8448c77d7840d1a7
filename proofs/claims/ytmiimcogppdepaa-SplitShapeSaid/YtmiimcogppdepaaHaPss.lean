/- Plain laws: how a network is made. -/
import Derived.Test.YtmiimcogppdepaaHaPsp
set_option linter.unusedVariables false
set_option linter.unusedSimpArgs false
namespace Go.TF
open Go Go.Abs
theorem half2 {x : Int} (h : 0 ≤ x ∧ x ≤ 1000) : IntKind.wrap .i64 (Int.tdiv (IntKind.wrap .i64 (2 + 2 * x - 2)) 2) = x := by
 rw [w64 (n := 2 + 2 * x - 2) (by omega) (by omega), Int.tdiv_eq_ediv_of_nonneg (by omega), show (2 + 2 * x - 2) / 2 = x by omega, w64 (by omega) (by omega)]
theorem half3 {x : Int} (h : 0 ≤ x ∧ x ≤ 1000) : IntKind.wrap .i64 (Int.tdiv (IntKind.wrap .i64 (3 + 2 * x - 3)) 2) = x := by
 rw [w64 (n := 3 + 2 * x - 3) (by omega) (by omega), Int.tdiv_eq_ediv_of_nonneg (by omega), show (3 + 2 * x - 3) / 2 = x by omega, w64 (by omega) (by omega)]
theorem sumD (g : Int → Int) (a c : Int) : ∀ n : Nat, sumB (fun x => (if x = a then c else 0) + g x) n = (if 0 ≤ a ∧ a < n then c else 0) + sumB g n
 | 0 => by simp [sumB]; omega
 | n + 1 => by
  rw [sumB, sumB, sumD g a c n]
  by_cases h : (n : Int) = a
  ·subst h; rw [if_neg (by omega), if_pos rfl, if_pos (by omega)]; omega
  ·rw [if_neg h]
   by_cases h2 : 0 ≤ a ∧ a < n
   ·rw [if_pos h2, if_pos (by omega)]; omega
   ·rw [if_neg h2, if_neg (by omega)]; omega
theorem sumZ : ∀ n : Nat, sumB (fun _ => 0) n = 0
 | 0 => rfl
 | n + 1 => by rw [sumB, sumZ n]; rfl
theorem sumB_count (P : Int → Prop) [DecidablePred P] (n : Nat) : ∀ s : List Int, (∀ x ∈ s, 0 ≤ x ∧ x < n) → s.Pairwise (· < ·) → sumB (fun x => if P x ∧ x ∈ s then 1 else 0) n = ((s.filter fun x => decide (P x)).length : Int)
 | [], _, _ => by simp [sumZ]
 | a :: s, h, hp => by
  rw [List.pairwise_cons] at hp
  have ha := h a (by simp)
  have ih := sumB_count P n s (fun x hx => h x (by simp [hx])) hp.2
  have e : (fun x : Int => if P x ∧ x ∈ a :: s then (1 : Int) else 0) = fun x => (if x = a then (if P a then 1 else 0) else 0) + (if P x ∧ x ∈ s then 1 else 0) := by
   funext x
   by_cases q : x = a
   ·subst q
    have : x ∉ s := fun hx => by have := hp.1 x hx; omega
    simp [this]
   ·simp [q]
  rw [e, sumD, if_pos ha, ih]
  by_cases q : P a
  ·rw [if_pos q, List.filter_cons_of_pos (by simpa using q), List.length_cons]; omega
  ·rw [if_neg q, List.filter_cons_of_neg (by simpa using q)]; omega
theorem shape_L3 (N : Nat) (s ks : List Int) (c : Int → Int) (hN : N ≤ 100) (hs : s.length ≤ 100) (hks : ks.length ≤ 100) : ∀ (m i n : Nat) (a b : Int), i + m = N → m < n →
 a + sumB (fun x => if 0 < c x ∧ x ∈ s then 1 else 0) i = sumB (fun x => if 0 < c x ∧ x ∈ s then 1 else 0) N → b + sumB (fun x => if 0 < c x ∧ x ∈ ks then 1 else 0) i = sumB (fun x => if 0 < c x ∧ x ∈ ks then 1 else 0) N →
 law14_SplitShape.L3 1000 (N : Int) s ks (tab N c) n a b (i : Int) = some true
 | 0, i, n + 1, a, b, h, _, ha, hb => by
  have : i = N := by omega
  subst this
  rw [law14_SplitShape.L3, if_neg (by omega), awake14, bnd1_some, if_pos rfl, if_pos (by omega)]
  have : b = 0 := by omega
  simp [this]
 | m + 1, i, n + 1, a, b, h, hn, ha, hb => by
  have r1 := (sumB_range (f := fun x => if 0 < c x ∧ x ∈ s then 1 else 0) (M := 1) (fun x => by split <;> omega) i)
  have r2 := (sumB_range (f := fun x => if 0 < c x ∧ x ∈ s then 1 else 0) (M := 1) (fun x => by split <;> omega) N)
  have r3 := (sumB_range (f := fun x => if 0 < c x ∧ x ∈ ks then 1 else 0) (M := 1) (fun x => by split <;> omega) i)
  have r4 := (sumB_range (f := fun x => if 0 < c x ∧ x ∈ ks then 1 else 0) (M := 1) (fun x => by split <;> omega) N)
  have go := fun a' b' (h1 : a' = a - if 0 < c (i : Int) ∧ (i : Int) ∈ s then 1 else 0) (h2 : b' = b - if 0 < c (i : Int) ∧ (i : Int) ∈ ks then 1 else 0) =>
   shape_L3 N s ks c hN hs hks m (i + 1) n a' b' (by omega) (by omega) (by rw [sumB]; omega) (by rw [sumB]; omega)
  rw [law14_SplitShape.L3, if_pos (by omega), idx_tab (by omega) (by omega)]
  unfold law14_SplitShape.J5 law14_SplitShape.J4
  simp only [idx_tab (N := N) (f := c) (show 0 ≤ (i : Int) by omega) (show (i : Int) < N by omega), sc64 i (by omega)]
  by_cases q : 0 < c (i : Int)
  ·rw [if_pos q, rHas_eq 1000 s _ (by omega) (by omega), bnd1_some]
   have inner : ∀ a' : Int, (a' = a - if 0 < c (i : Int) ∧ (i : Int) ∈ s then 1 else 0) → (if 0 < c (i : Int) then bnd1 (ref11_Has 1000 ks (i : Int)) fun v44 => if v44 = true then law14_SplitShape.L3 1000 (N : Int) s ks (tab N c) n a' (IntKind.wrap .i64 (b - 1)) ((i + 1 : Nat) : Int) else law14_SplitShape.L3 1000 (N : Int) s ks (tab N c) n a' b ((i + 1 : Nat) : Int)
    else law14_SplitShape.L3 1000 (N : Int) s ks (tab N c) n a' b ((i + 1 : Nat) : Int)) = some true := by
    intro a' h1
    rw [if_pos q, rHas_eq 1000 ks _ (by omega) (by omega), bnd1_some]
    by_cases w : (i : Int) ∈ ks
    ·rw [if_pos (by simpa using w), w64 (by omega) (by omega)]
     exact go _ _ h1 (by rw [if_pos ⟨q, w⟩])
    ·rw [if_neg (by simpa using w)]
     exact go _ _ h1 (by rw [if_neg (fun z => w z.2)]; omega)
   by_cases w : (i : Int) ∈ s
   ·rw [if_pos (by simpa using w), w64 (n := a - 1) (by omega) (by omega)]
    exact inner _ (by rw [if_pos ⟨q, w⟩])
   ·rw [if_neg (by simpa using w)]
    exact inner _ (by rw [if_neg (fun z => w z.2)]; omega)
  ·rw [if_neg q, if_neg q]
   exact go _ _ (by rw [if_neg (fun z => q z.1)]; omega) (by rw [if_neg (fun z => q z.1)]; omega)
def cnt0 : List api_Arc → Int
 | [] => 0
 | a :: l => (if a.From = 0 then 1 else 0) + cnt0 l
def cnt1 : List api_Arc → Int
 | [] => 0
 | a :: l => (if a.From ≠ 0 ∧ a.To = 1 then 1 else 0) + cnt1 l
theorem cnt0_app (l l' : List api_Arc) : cnt0 (l ++ l') = cnt0 l + cnt0 l' := by
 induction l with
 | nil => simp [cnt0]
 | cons a l ih => rw [List.cons_append, cnt0, cnt0, ih]; omega
theorem cnt1_app (l l' : List api_Arc) : cnt1 (l ++ l') = cnt1 l + cnt1 l' := by
 induction l with
 | nil => simp [cnt1]
 | cons a l ih => rw [List.cons_append, cnt1, cnt1, ih]; omega
theorem cnt0_all {l : List api_Arc} (h : ∀ a ∈ l, a.From = 0) : cnt0 l = l.length := by
 induction l with
 | nil => rfl
 | cons a l ih => rw [cnt0, if_pos (h a (by simp)), ih fun x hx => h x (by simp [hx]), List.length_cons]; omega
theorem cnt0_none {l : List api_Arc} (h : ∀ a ∈ l, a.From ≠ 0) : cnt0 l = 0 := by
 induction l with
 | nil => rfl
 | cons a l ih => rw [cnt0, if_neg (h a (by simp)), ih fun x hx => h x (by simp [hx])]; omega
theorem cnt1_all {l : List api_Arc} (h : ∀ a ∈ l, a.From ≠ 0 ∧ a.To = 1) : cnt1 l = l.length := by
 induction l with
 | nil => rfl
 | cons a l ih => rw [cnt1, if_pos (h a (by simp)), ih fun x hx => h x (by simp [hx]), List.length_cons]; omega
theorem cnt1_none {l : List api_Arc} (h : ∀ a ∈ l, ¬ (a.From ≠ 0 ∧ a.To = 1)) : cnt1 l = 0 := by
 induction l with
 | nil => rfl
 | cons a l ih => rw [cnt1, if_neg (h a (by simp)), ih fun x hx => h x (by simp [hx])]; omega
def goodA (N : Nat) (s ks : List Int) (c : Int → Int) (a : api_Arc) : Prop :=
 (∃ x, a = arS c x ∧ 0 ≤ x ∧ x < N ∧ x ∈ s ∧ 0 < c x) ∨ (∃ x, a = arI c x ∧ 0 ≤ x ∧ x < N ∧ 0 < c x) ∨ (∃ x, a = arT x ∧ 0 ≤ x ∧ x < N ∧ x ∈ ks ∧ 0 < c x) ∨
 (∃ e, a = arE e ∧ 0 ≤ e.From ∧ e.From < N ∧ 0 ≤ e.To ∧ e.To < N ∧ 0 < c e.From ∧ 0 < c e.To)
theorem shape_L1 (N : Nat) (s ks : List Int) (c : Int → Int) (A : List api_Arc) (hN : N ≤ 64) (hs : s.length ≤ 100) (hks : ks.length ≤ 100) (hA : ∀ a ∈ A, goodA N s ks c a) (h9 : A.length ≤ 10000) (hc : ∀ x, c x ≤ 100000) : ∀ (m i n : Nat) (a b : Int), i + m = A.length → m < n → 0 ≤ a → a ≤ i → 0 ≤ b → b ≤ i →
 law14_SplitShape.L1 1000 (N : Int) s ks (2 + 2 * (N : Int)) A (tab N c) n a b (i : Int) = law14_SplitShape.L3 1000 (N : Int) s ks (tab N c) 1000 (a + cnt0 (A.drop i)) (b + cnt1 (A.drop i)) 0
 | 0, i, n + 1, a, b, h, _, _, _, _, _ => by
  rw [law14_SplitShape.L1, if_neg (by omega), List.drop_eq_nil_of_le (by omega), cnt0, cnt1, Int.add_zero, Int.add_zero]
 | m + 1, i, n + 1, a, b, h, hn, a0, a1, b0, b1 => by
  have hi : i < A.length := by omega
  have go := fun a' b' (h1 : a' = a + if A[i].From = 0 then 1 else 0) (h2 : b' = b + if A[i].From ≠ 0 ∧ A[i].To = 1 then 1 else 0) (h3 : a' = a ∨ a' = a + 1) (h4 : b' = b ∨ b' = b + 1) =>
   shape_L1 N s ks c A hN hs hks hA h9 hc m (i + 1) n a' b' (by omega) (by omega) (by omega) (by omega) (by omega) (by omega)
  rw [law14_SplitShape.L1, if_pos (by omega), idx_pos hi, List.drop_eq_getElem_cons hi, cnt0, cnt1]
  unfold law14_SplitShape.J2
  simp only [sc64 i (by omega)]
  have fin : ∀ a' b', a' = a + (if A[i].From = 0 then 1 else 0) → b' = b + (if A[i].From ≠ 0 ∧ A[i].To = 1 then 1 else 0) → (a' = a ∨ a' = a + 1) → (b' = b ∨ b' = b + 1) →
   law14_SplitShape.L1 1000 (N : Int) s ks (2 + 2 * (N : Int)) A (tab N c) n a' b' ((i + 1 : Nat) : Int) = law14_SplitShape.L3 1000 (N : Int) s ks (tab N c) 1000 (a + ((if A[i].From = 0 then 1 else 0) + cnt0 (A.drop (i + 1)))) (b + ((if A[i].From ≠ 0 ∧ A[i].To = 1 then 1 else 0) + cnt1 (A.drop (i + 1)))) 0 := by
   intro a' b' h1 h2 h3 h4
   rw [go a' b' h1 h2 h3 h4, h1, h2, Int.add_assoc, Int.add_assoc]
  rcases hA _ (List.getElem_mem hi) with ⟨x, e, x0, x1, x2, x3⟩ | ⟨x, e, x0, x1, x3⟩ | ⟨x, e, x0, x1, x2, x3⟩ | ⟨y, e, y0, y1, y2, y3, y4, y5⟩
  ·have eF : A[i].From = 0 := by rw [e]; rfl
   have eT : A[i].To = 2 + 2 * x := by rw [e]; rfl
   have eC : A[i].Cap = c x := by rw [e]; rfl
   rw [eF, eT] at fin ⊢
   rw [eC]
   have := hc x
   rw [if_neg (by omega), if_neg (by omega), if_neg (by omega), if_neg (by omega), if_neg (by omega), if_neg (by omega), if_pos rfl, half2 (by omega), sEntry_eq 1000 _ (by omega), bnd1_some, if_neg (by simp), rHas_eq 1000 s _ (by omega) (by omega), bnd1_some, if_neg (by simpa using x2), idx_tab x0 x1, if_neg (by simp), if_neg (by omega), w64 (n := a + 1) (by omega) (by omega)]
   exact fin _ _ (by simp) (by simp) (.inr rfl) (.inl rfl)
  ·have eF : A[i].From = 2 + 2 * x := by rw [e]; rfl
   have eT : A[i].To = 3 + 2 * x := by rw [e]; rfl
   have eC : A[i].Cap = c x - 1 := by rw [e]; rfl
   rw [eF, eT] at fin ⊢
   rw [eC]
   have := hc x
   rw [if_neg (by omega), if_neg (by omega), if_neg (by omega), if_neg (by omega), if_neg (by omega), if_neg (by omega), if_neg (by omega), if_neg (by omega), if_pos (by rw [Int.tmod_eq_emod_of_nonneg (by omega)]; omega), half2 (by omega), sExit_eq 1000 _ (by omega), bnd1_some, if_neg (by simp), idx_tab x0 x1, if_neg (by rw [w64 (by omega) (by omega)]; simp)]
   exact fin _ _ (by rw [if_neg (by omega)]; omega) (by rw [if_neg (by omega)]; omega) (.inl rfl) (.inl rfl)
  ·have eF : A[i].From = 2 + 2 * x := by rw [e]; rfl
   have eT : A[i].To = 1 := by rw [e]; rfl
   have eC : A[i].Cap = 1 := by rw [e]; rfl
   rw [eF, eT] at fin ⊢
   rw [eC]
   rw [if_neg (by omega), if_neg (by omega), if_neg (by omega), if_neg (by omega), if_neg (by omega), if_neg (by omega), if_neg (by omega), if_pos rfl, half2 (by omega), sEntry_eq 1000 _ (by omega), bnd1_some, if_neg (by simp), rHas_eq 1000 ks _ (by omega) (by omega), bnd1_some, if_neg (by simpa using x2), if_neg (by simp), idx_tab x0 x1, if_neg (by omega), w64 (n := b + 1) (by omega) (by omega)]
   exact fin _ _ (by rw [if_neg (by omega)]; omega) (by rw [if_pos (by omega)]) (.inl rfl) (.inr rfl)
  ·have eF : A[i].From = 3 + 2 * y.From := by rw [e]; rfl
   have eT : A[i].To = 2 + 2 * y.To := by rw [e]; rfl
   have eC : A[i].Cap = 64 := by rw [e]; rfl
   rw [eF, eT] at fin ⊢
   rw [eC]
   rw [if_neg (by omega), if_neg (by omega), if_neg (by omega), if_neg (by omega), if_neg (by omega), if_neg (by omega), if_neg (by omega), if_neg (by omega), if_neg (by rw [Int.tmod_eq_emod_of_nonneg (by omega)]; omega), if_neg (by simp), half3 (by omega), idx_tab y0 y1, if_neg (by omega), half2 (by omega), idx_tab y2 y3, if_neg (by omega), sEntry_eq 1000 _ (by omega), bnd1_some, if_neg (by simp)]
   exact fin _ _ (by rw [if_neg (by omega)]; omega) (by rw [if_neg (by omega)]; omega) (.inl rfl) (.inl rfl)
theorem reach_on {N : Nat} {E : List api_Edge} {g s : List Int} {lv : Int} (hE : inE N E) (hs : ∀ x ∈ s, 0 ≤ x ∧ x < N) {e : api_Edge} (he : e ∈ E.filter (lvE lv)) (h : rchF N E g s lv e.From = true) : rchF N E g s lv e.To = true := by
 unfold rchF at h ⊢
 rw [decide_eq_true_eq] at h ⊢
 obtain ⟨j, hj⟩ := Int.eq_ofNat_of_zero_le h
 have hin : ∀ p ∈ (E.filter (lvE lv)).map pr, 0 ≤ p.2 ∧ p.2 < N := by
  intro p hp
  obtain ⟨x, hx, rfl⟩ := List.mem_map.1 hp
  have := hE x (List.mem_filter.1 hx).1
  exact ⟨this.2.2.1, this.2.2.2⟩
 have hS : ∀ v, sS s g v = true → 0 ≤ v ∧ v < N := by
  intro v hv; unfold sS at hv
  simp only [Bool.and_eq_true, decide_eq_true_eq] at hv
  exact hs v hv.1
 have hlt := Dist.dst_lt N hS hin j e.From (Dist.dst_at N j e.From hj)
 have := Dist.dst_from (k := N) hj hlt (v := e.To) (List.mem_map_of_mem (f := pr) he)
 have := Dist.dst_range (E := (E.filter (lvE lv)).map pr) (S := sS s g) N e.To
 show 0 ≤ Dist.dst ((E.filter (lvE lv)).map pr) (sS s g) N e.To
 omega
theorem net_good {N : Nat} {E : List api_Edge} {g s t : List Int} {lv : Int} {ks : List Int} (hE : inE N E) (hs : ∀ x ∈ s, 0 ≤ x ∧ x < N) (hk : ∀ x ∈ ks, 0 ≤ x ∧ x < N) (ht : ∀ x ∈ t, 1 ≤ x) : ∀ a ∈ netF N E g s t lv ks, goodA N s ks (cF N E g s t lv) a := by
 intro a ha
 have P := fun v => cF_pos (N := N) (E := E) (g := g) (s := s) (lv := lv) ht v
 unfold netF arcsF at ha
 simp only [List.mem_append, List.mem_map, List.mem_filter] at ha
 rcases ha with ((⟨x, ⟨h1, h2⟩, rfl⟩ | ⟨x, ⟨h1, h2⟩, rfl⟩) | ⟨x, ⟨h1, h2⟩, rfl⟩) | ⟨e, ⟨h1, h2⟩, rfl⟩
 ·have := hs x h1; exact .inl ⟨x, rfl, this.1, this.2, h1, (P x).2 h2⟩
 ·have := mem_nums.1 h1; exact .inr (.inl ⟨x, rfl, this.1, this.2, (P x).2 h2⟩)
 ·have := hk x h1; exact .inr (.inr (.inl ⟨x, rfl, this.1, this.2, h1, (P x).2 h2⟩))
 ·have := hE e h1.1
  exact .inr (.inr (.inr ⟨e, rfl, this.1, this.2.1, this.2.2.1, this.2.2.2, (P _).2 h2, (P _).2 (reach_on hE hs (List.mem_filter.2 h1) h2)⟩))
theorem net_cnt {N : Nat} {E : List api_Edge} {g s t : List Int} {lv : Int} {ks : List Int} (hE : inE N E) (hs : ∀ x ∈ s, 0 ≤ x ∧ x < N) (hk : ∀ x ∈ ks, 0 ≤ x ∧ x < N) :
 cnt0 (netF N E g s t lv ks) = ((s.filter (rchF N E g s lv)).length : Int) ∧ cnt1 (netF N E g s t lv ks) = ((ks.filter (rchF N E g s lv)).length : Int) := by
 unfold netF arcsF
 constructor
 ·rw [cnt0_app, cnt0_app, cnt0_app, cnt0_all (l := (s.filter _).map _) (fun a ha => by obtain ⟨x, _, rfl⟩ := List.mem_map.1 ha; rfl), List.length_map]
  rw [cnt0_none (l := ((nums N).filter _).map _) (fun a ha => by obtain ⟨x, h, rfl⟩ := List.mem_map.1 ha; have := mem_nums.1 (List.mem_filter.1 h).1; simp only [arI]; omega)]
  rw [cnt0_none (l := (ks.filter _).map _) (fun a ha => by obtain ⟨x, h, rfl⟩ := List.mem_map.1 ha; have := hk x (List.mem_filter.1 h).1; simp only [arT]; omega)]
  rw [cnt0_none (l := (List.filter _ (E.filter (lvE lv))).map _) (fun a ha => by obtain ⟨x, h, rfl⟩ := List.mem_map.1 ha; have := hE x (List.mem_filter.1 (List.mem_filter.1 h).1).1; simp only [arE]; omega)]
  omega
 ·rw [cnt1_app, cnt1_app, cnt1_app, cnt1_none (l := (s.filter _).map _) (fun a ha => by obtain ⟨x, _, rfl⟩ := List.mem_map.1 ha; simp [arS])]
  rw [cnt1_none (l := ((nums N).filter _).map _) (fun a ha => by obtain ⟨x, h, rfl⟩ := List.mem_map.1 ha; have := mem_nums.1 (List.mem_filter.1 h).1; rintro ⟨_, z⟩; have z' : 3 + 2 * x = 1 := z; omega)]
  rw [cnt1_all (l := (ks.filter _).map _) (fun a ha => by obtain ⟨x, h, rfl⟩ := List.mem_map.1 ha; have := hk x (List.mem_filter.1 h).1; exact ⟨by show 2 + 2 * x ≠ 0; omega, rfl⟩), List.length_map]
  rw [cnt1_none (l := (List.filter _ (E.filter (lvE lv))).map _) (fun a ha => by obtain ⟨x, h, rfl⟩ := List.mem_map.1 ha; have := hE x (List.mem_filter.1 (List.mem_filter.1 h).1).1; rintro ⟨_, z⟩; have z' : 2 + 2 * x.To = 1 := z; omega)]
  omega
theorem SplitShape_true (v0 : List Int) (h0 : Fit (.lst false false (v0.map (.int .i64)))) : law14_SplitShape 1000 v0 = some true := by
 unfold law14_SplitShape
 rw [Light_eq, bnd1_some]
 by_cases h : (v0.length : Int) ≤ 400
 ·rw [if_neg (by simpa using h), Roll_eq, bnd2_some]
  obtain ⟨N, E, g, q, e, hq, n1, n2, ok⟩ := Graph_eq v0 0 (by omega) ⟨by omega, by omega⟩
  have G : GV N E g := ⟨by omega, by omega, ok⟩
  have hgl := G.glen; have hel := G.len
  obtain ⟨s, t, lv, q2, e2, hq2, pv⟩ := Policy_eq v0 q N E g (by omega) hq (by omega) (by omega)
  have hs := pv.sl; have ht9 := pv.t9
  obtain ⟨ks, q3, e3, hq3, ka, kr, hk⟩ := Some_eq 1000 v0 q2 (N : Int) (by omega) hq2 (by omega) (by omega) (by omega)
  have hset : setF N none ks = true := (setF_iff _ _).2 ⟨kr, ka⟩
  have hl := net_len N E g s t lv ks
  rw [e, bnd4_some, e2, bnd4_some, e3, bnd2_some, pNet_eq N E g s t lv ks G.gw (by omega) (by omega) pv.pol, if_pos hset, bnd3_some, rAllW N E g s t lv G.gw (by omega) (by omega), bnd1_some, if_neg (by simp), w64 (n := 2 * (N : Int)) (by omega) (by omega), w64 (by omega) (by omega), if_neg (by simp), if_neg (by omega)]
  have c9 : ∀ x, cF N E g s t lv x ≤ 100000 := fun x => (ofC_range (fun y hy => by have := pv.tr y hy; omega) _).2
  have := shape_L1 N s ks (cF N E g s t lv) (netF N E g s t lv ks) (by omega) (by omega) (by omega) (net_good G.inE pv.sr kr fun x hx => (pv.tr x hx).1) (by omega) c9 (netF N E g s t lv ks).length 0 1000 0 0 (by omega) (by omega) (by omega) (by omega) (by omega) (by omega)
  refine Eq.trans this ?_
  obtain ⟨c0, c1⟩ := net_cnt (t := t) (g := g) (lv := lv) G.inE pv.sr kr
  have P : ∀ x, (0 < cF N E g s t lv x) ↔ rchF N E g s lv x = true := fun x => cF_pos (fun y hy => (pv.tr y hy).1) x
  have f1 : (fun x => decide (0 < cF N E g s t lv x)) = rchF N E g s lv := by funext x; rw [Bool.eq_iff_iff, decide_eq_true_eq]; exact P x
  have s1 := sumB_count (fun x => 0 < cF N E g s t lv x) N s pv.sr pv.sa
  have s2 := sumB_count (fun x => 0 < cF N E g s t lv x) N ks kr ka
  rw [f1] at s1 s2
  rw [List.drop_zero, c0, c1]
  exact shape_L3 N s ks (cF N E g s t lv) (by omega) (by omega) (by omega) N 0 1000 _ _ (by omega) (by omega) (by rw [s1, sumB]; omega) (by rw [s2, sumB]; omega)
 ·rw [if_pos (by simpa using h), awake14, bnd1_some]
end Go.TF
