/- Plain laws: the laws CapacityMore and CapacityBounds. -/
import Derived.Test.YtmiimcogppdepaaOaPca
set_option linter.unusedVariables false
set_option linter.unusedSimpArgs false
namespace Go.TF
open Go Go.Abs
theorem ofC_neg {t : List Int} {d : Int} (h : d < 0) : ofC t d = 0 := by unfold ofC; rw [if_pos h]
theorem ofC_at {t : List Int} {i : Nat} (h : i < t.length) : ofC t (i : Int) = t[i] := by
 unfold ofC; rw [if_neg (by omega), if_pos (by omega)]
 simp [List.getD_eq_getElem?_getD, List.getElem?_eq_getElem h]
theorem ofC_far {t : List Int} {d : Int} (h0 : 0 ≤ d) (h : (t.length : Int) ≤ d) : ofC t d = 1 := by
 unfold ofC; rw [if_neg (by omega), if_neg (by omega)]
theorem ofC_pos {t : List Int} (ht : ∀ x ∈ t, 1 ≤ x) {d : Int} (h0 : 0 ≤ d) : 1 ≤ ofC t d := by
 obtain ⟨i, rfl⟩ := Int.eq_ofNat_of_zero_le h0
 by_cases h : i < t.length
 ·rw [ofC_at h]; exact ht _ (List.getElem_mem h)
 ·rw [ofC_far h0 (by omega)]; omega
theorem ofC_mono {t : List Int} (ht : ∀ x ∈ t, 1 ≤ x) (td : t.Pairwise (fun a b => b ≤ a)) {d e : Int} (h0 : 0 ≤ e) (h : e ≤ d) : ofC t d ≤ ofC t e := by
 obtain ⟨i, rfl⟩ := Int.eq_ofNat_of_zero_le h0
 obtain ⟨j, rfl⟩ := Int.eq_ofNat_of_zero_le (show 0 ≤ d by omega)
 by_cases hj : j < t.length
 ·have hi : i < t.length := by omega
  rw [ofC_at hj, ofC_at hi]
  by_cases e : i = j
  ·subst e; omega
  ·exact List.pairwise_iff_getElem.1 td i j hi hj (by omega)
 ·rw [ofC_far (t := t) (d := (j : Int)) (by omega) (by omega)]
  exact ofC_pos ht h0
theorem ofC_two (t : List Int) (ht : ∀ x ∈ t, 1 ≤ x) (d : Int) : ofC t d ≤ ofC (t.map (· + 2)) d ∧ (ofC (t.map (· + 2)) d = 0 ↔ ofC t d = 0) := by
 by_cases h0 : d < 0
 ·rw [ofC_neg h0, ofC_neg h0]; simp
 ·obtain ⟨i, rfl⟩ := Int.eq_ofNat_of_zero_le (show 0 ≤ d by omega)
  by_cases h : i < t.length
  ·have := ht _ (List.getElem_mem h)
   rw [ofC_at h, ofC_at (by simpa using h), List.getElem_map]; omega
  ·rw [ofC_far (by omega) (by omega), ofC_far (by omega) (by simp; omega)]; simp
theorem more_L3 (N : Nat) (fa fb fc : Int → Int) (hN : N ≤ 100) (hb : ∀ v : Int, 0 ≤ v → v < N → fa v ≤ fb v) (hc : ∀ v : Int, 0 ≤ v → v < N → fa v ≤ fc v ∧ (fc v = 0 ↔ fa v = 0)) : ∀ (m i n : Nat), i + m = N → m < n → law13_CapacityMore.L3 1000 (N : Int) (tab N fa) (tab N fb) (tab N fc) n (i : Int) = some true
 | 0, i, n + 1, h, _ => by rw [law13_CapacityMore.L3, if_neg (by omega), awake13, bnd1_some]
 | m + 1, i, n + 1, h, hn => by
  have b := hb (i : Int) (by omega) (by omega)
  obtain ⟨c1, c2⟩ := hc (i : Int) (by omega) (by omega)
  rw [law13_CapacityMore.L3, if_pos (by omega), idx_tab (by omega) (by omega), idx_tab (by omega) (by omega), if_neg (by omega), idx_tab (by omega) (by omega), if_neg (by omega), if_neg, sc64 i (by omega)]
  ·exact more_L3 N fa fb fc hN hb hc m (i + 1) n (by omega) (by omega)
  ·have e1 : (fc (i : Int) == 0) = (fa (i : Int) == 0) := by rw [Bool.eq_iff_iff, beq_iff_eq, beq_iff_eq]; exact c2
   rw [e1]; simp
theorem more_L2 (N N' : Int) (E E' : List api_Edge) (g g' s s' t : List Int) (lv lv' : Int) (ht : t.length ≤ 100) (tr : ∀ x ∈ t, 1 ≤ x ∧ x ≤ 1000) : ∀ (m i n : Nat), i + m = t.length → m < n →
 law13_CapacityMore.L2 1000 N E g s t lv N' E' g' s' lv' n (i : Int) ((t.take i).map (· + 2) ++ t.drop i) = law13_CapacityMore.L2 1000 N E g s t lv N' E' g' s' lv' (n - m) (t.length : Int) (t.map (· + 2))
 | 0, i, n + 1, h, _ => by
  have : i = t.length := by omega
  subst this
  simp
 | m + 1, i, n + 1, h, hn => by
  have hi : i < t.length := by omega
  have hl : ((t.take i).map (· + 2) ++ t.drop i).length = t.length := by simp; omega
  have hx := tr _ (List.getElem_mem hi)
  have hg : ∀ h, ((t.take i).map (· + 2) ++ t.drop i)[i]'h = t[i] := by
   intro h
   rw [List.getElem_append_right (by simp; omega)]
   simp [Nat.min_eq_left (Nat.le_of_lt hi)]
  rw [law13_CapacityMore.L2, if_pos (by rw [hl]; omega), chk_pos (by rw [hl]; omega), idx_pos (by rw [hl]; omega), hg, chk_pos (by rw [hl]; omega), w64 (n := t[i] + 2) (by omega) (by omega), sc64 i (by omega), show ((i : Int)).toNat = i by omega]
  have e : ((t.take i).map (· + 2) ++ t.drop i).set i (t[i] + 2) = (t.take (i + 1)).map (· + 2) ++ t.drop (i + 1) := by
   rw [List.set_append, if_neg (by simp; omega), List.drop_eq_getElem_cons hi]
   have e1 : i - ((t.take i).map (· + 2)).length = 0 := by simp; omega
   rw [e1, List.set_cons_zero, List.take_succ_eq_append_getElem hi, List.map_append, List.append_assoc]; rfl
  rw [e, more_L2 N N' E E' g g' s s' t lv lv' ht tr m (i + 1) n (by omega) (by omega), show n + 1 - (m + 1) = n - m by omega]
theorem PV.t100 {N : Nat} {s t : List Int} {lv : Int} (h : PV N s t lv) : ∀ x ∈ t, 0 ≤ x ∧ x ≤ 100000 := fun x hx => by have := h.tr x hx; omega
theorem cAll_more {N : Nat} {E E' : List api_Edge} {g s t : List Int} {lv : Int} (pv : PV N s t lv) (h : ∀ e ∈ E, e ∈ E') (v : Int) : cF N E g s t lv v ≤ cF N E' g s t lv v := by
 unfold cF
 by_cases z : dE (E.filter (lvE lv)) (sS s g) N v = -1
 ·rw [z, ofC_neg (by omega)]
  rcases Dist.dst_range (E := (E'.filter (lvE lv)).map pr) (S := sS s g) N v with q | q
  ·rw [show dE (E'.filter (lvE lv)) (sS s g) N v = -1 from q, ofC_neg (by omega)]; omega
  ·have := ofC_pos (t := t) (fun x hx => (pv.tr x hx).1) q.1
   show 0 ≤ ofC t (Dist.dst ((E'.filter (lvE lv)).map pr) (sS s g) N v)
   omega
 ·obtain ⟨q1, q2⟩ := Dist.dst_mono (E := (E.filter (lvE lv)).map pr) (E' := (E'.filter (lvE lv)).map pr) (S := sS s g) (S' := sS s g) (fun e he => by
   obtain ⟨x, hx, rfl⟩ := List.mem_map.1 he
   rw [List.mem_filter] at hx
   exact List.mem_map_of_mem (List.mem_filter.2 ⟨h x hx.1, hx.2⟩)) (fun _ h => h) N v z
  rcases Dist.dst_range (E := (E'.filter (lvE lv)).map pr) (S := sS s g) N v with q | q
  ·exact absurd q q1
  ·exact ofC_mono (fun x hx => (pv.tr x hx).1) pv.td q.1 q2
theorem CapacityMore_true (v0 : List Int) (h0 : Fit (.lst false false (v0.map (.int .i64)))) : law13_CapacityMore 1000 v0 = some true := by
 unfold law13_CapacityMore
 rw [Light_eq, bnd1_some]
 by_cases h : (v0.length : Int) ≤ 400
 ·rw [if_neg (by simpa using h), Roll_eq, bnd2_some]
  obtain ⟨N, E, g, q, e, hq, n1, n2, ok⟩ := Graph_eq v0 0 (by omega) ⟨by omega, by omega⟩
  have G : GV N E g := ⟨by omega, by omega, ok⟩
  obtain ⟨s, t, lv, q2, e2, hq2, pv⟩ := Policy_eq v0 q N E g (by omega) hq (by omega) (by omega)
  have hs := pv.sl; have ht := pv.t0; have ht9 := pv.t9
  obtain ⟨f, q3, e3, hq3, _⟩ := Next_eq 1000 v0 q2 (N : Int) (by omega) hq2
  obtain ⟨w, q4, e4, hq4, _⟩ := Next_eq 1000 v0 q3 (N : Int) (by omega) hq3
  rw [e, bnd4_some, e2, bnd4_some, e3, bnd2_some, e4, bnd2_some]
  obtain ⟨N', E', g', r, e5, h5⟩ := with_eq 1000 (N : Int) E g f w 3 (by omega) ok
  rw [e5, bnd4_some]
  have fin : ∀ (E' : List api_Edge), okG (N : Int) E' g = true → (∀ e ∈ E, e ∈ E') → law13_CapacityMore.J1 1000 (N : Int) E g s t lv (N : Int) E' g = some true := by
   intro E' ok' sub
   have G' : GV N E' g := ⟨by omega, by omega, ok'⟩
   unfold law13_CapacityMore.J1 ref13_CopyPolicy_o
   rw [chk_pos (by omega), chk_pos (by omega), bnd3_some]
   have := more_L2 (N : Int) (N : Int) E E' g g s s t lv lv (by omega) (fun x hx => by have := pv.tr x hx; omega) t.length 0 1000 (by omega) (by omega)
   simp only [List.take_zero, List.map_nil, List.nil_append, List.drop_zero] at this
   obtain ⟨n, hn⟩ : ∃ n, 1000 - t.length = n + 1 := ⟨999 - t.length, by omega⟩
   rw [show (0 : Int) = ((0 : Nat) : Int) from rfl, this, hn, law13_CapacityMore.L2, if_neg (by simp), pAll_eq N E g s t lv G (by omega) (by omega) pv.sr, bnd1_some, pAll_eq N E' g s t lv G' (by omega) (by omega) pv.sr, bnd1_some,
    pAll_eq N E g s (t.map (· + 2)) lv G (by omega) (by simp; omega) pv.sr, bnd1_some]
   unfold cAll
   rw [if_neg (by rw [tab_len]; omega), if_neg (by rw [tab_len]; omega), if_neg (by rw [tab_len]; omega)]
   exact more_L3 N _ _ _ (by omega) (fun v _ _ => cAll_more pv sub v) (fun v _ _ => ofC_two t (fun x hx => (pv.tr x hx).1) _) N 0 1000 (by omega) (by omega)
  by_cases hr : r = 0
  ·obtain ⟨rfl, rfl, k1, k2⟩ := h5 hr
   rw [if_pos hr]
   exact fin E' k1 fun x hx => (k2 x).2 (.inl hx)
  ·rw [if_neg hr]
   exact fin E ok fun _ h => h
 ·rw [if_pos (by simpa using h), awake13, bnd1_some]
theorem addB_keys {Ev : List api_Edge} {s ks ks' : List Int} {c : Int → Int} (h : ∀ y, y ∈ ks ↔ y ∈ ks') (x : Int) : addB Ev s ks c x = addB Ev s ks' c x := by
 have e : (fun y => decide (y ∈ ks)) = fun y => decide (y ∈ ks') := by funext y; simp [h y]
 unfold addB; rw [e]; simp only [h x]
def seedS (bad : List Int) (c : Int) : List Int → Int
 | [] => 0
 | x :: l => (if x ∈ bad then c else 0) + seedS bad c l
theorem seedS_range (bad : List Int) (c : Int) (h0 : 0 ≤ c) : ∀ l : List Int, 0 ≤ seedS bad c l ∧ seedS bad c l ≤ l.length * c
 | [] => by simp [seedS]
 | x :: l => by
  have := seedS_range bad c h0 l
  have e : ((l.length + 1 : Nat) : Int) * c = l.length * c + c := by rw [show ((l.length + 1 : Nat) : Int) = (l.length : Int) + 1 by omega, Int.add_mul]; omega
  rw [seedS, List.length_cons, e]
  split <;> omega
theorem sumB_delta (g : Int → Int) (a c : Int) : ∀ n : Nat, sumB (fun x => (if x = a then c else 0) + g x) n = (if 0 ≤ a ∧ a < n then c else 0) + sumB g n
 | 0 => by simp [sumB]; omega
 | n + 1 => by
  rw [sumB, sumB, sumB_delta g a c n]
  by_cases h : (n : Int) = a
  ·subst h; rw [if_neg (by omega), if_pos rfl, if_pos (by omega)]; omega
  ·rw [if_neg h]
   by_cases h2 : 0 ≤ a ∧ a < n
   ·rw [if_pos h2, if_pos (by omega)]; omega
   ·rw [if_neg h2, if_neg (by omega)]; omega
theorem sumB_zero : ∀ n : Nat, sumB (fun _ => 0) n = 0
 | 0 => rfl
 | n + 1 => by rw [sumB, sumB_zero n]; rfl
theorem sumB_seeds (bad : List Int) (c : Int) (n : Nat) : ∀ s : List Int, (∀ x ∈ s, 0 ≤ x ∧ x < n) → s.Pairwise (· < ·) → sumB (fun x => if x ∈ bad ∧ x ∈ s then c else 0) n = seedS bad c s
 | [], _, _ => by simp [seedS, sumB_zero]
 | a :: s, h, hp => by
  rw [List.pairwise_cons] at hp
  have ha := h a (by simp)
  rw [seedS, ← sumB_seeds bad c n s (fun x hx => h x (by simp [hx])) hp.2]
  have e : (fun x : Int => if x ∈ bad ∧ x ∈ a :: s then c else 0) = fun x => (if x = a then (if a ∈ bad then c else 0) else 0) + (if x ∈ bad ∧ x ∈ s then c else 0) := by
   funext x
   by_cases q : x = a
   ·subst q
    have : x ∉ s := fun hx => by have := hp.1 x hx; omega
    simp [this]
   ·simp [q]
  rw [e, sumB_delta, if_pos ha]
theorem bndF_range {N : Nat} {E : List api_Edge} {g s t : List Int} {lv : Int} (pv : PV N s t lv) (ks : List Int) : 0 ≤ bndF N E g s t lv ks :=
 (sumB_range (M := 100000) (fun x => addB_range (fun y => ofC_range pv.t100 _) x) N).1
theorem bnd_alone {N : Nat} {s t bad : List Int} {lv : Int} (pv : PV N s t lv) (h : 0 < t.length) : bndF N [] [] s t lv bad = seedS bad t[0] s := by
 rw [← sumB_seeds bad t[0] N s pv.sr pv.sa]
 unfold bndF
 refine sumB_congr N fun x _ _ => ?_
 unfold addB
 have o : outs ([].filter (lvE lv)) x = [] := rfl
 rw [o]
 by_cases a : x ∈ bad
 ·by_cases b : x ∈ s
  ·rw [if_pos a, if_pos b, if_pos ⟨a, b⟩]
   unfold cF
   have d0 : Dist.dst (List.map pr ([].filter (lvE lv))) (sS s []) 0 x = 0 := by simp [Dist.dst, sS, b]
   have : dE ([].filter (lvE lv)) (sS s []) N x = 0 := by
    have := Dist.dst_keep (k := 0) (v := x) (E := List.map pr ([].filter (lvE lv))) (S := sS s []) (by rw [d0]; omega) N
    rw [d0, Nat.zero_add] at this
    exact this
   rw [this, show (0 : Int) = ((0 : Nat) : Int) from rfl, ofC_at h]
  ·rw [if_pos a, if_neg b, if_neg (fun q => b q.2)]
 ·rw [if_neg a, if_neg (by simp), if_neg (fun q => a q.1)]
theorem bnd_same {N : Nat} {E E' : List api_Edge} {g s t bad : List Int} {lv : Int} (h1 : ∀ e ∈ E, e ∈ E') (h2 : ∀ e ∈ E', e ∈ E ∨ (e.From ∈ bad ∧ e.To ∈ bad)) (hc : ∀ v : Int, 0 ≤ v → v < N → cF N E g s t lv v = cF N E' g s t lv v ∨ (v ∈ bad ∧ v ∉ s)) : bndF N E' g s t lv bad = bndF N E g s t lv bad := by
 unfold bndF
 refine sumB_congr N fun x x0 x1 => ?_
 unfold addB
 have c := hc x x0 x1
 by_cases a : x ∈ bad
 ·rw [if_pos a, if_pos a]
  by_cases b : x ∈ s
  ·rw [if_pos b, if_pos b]
   rcases c with c | c
   ·exact c.symm
   ·exact absurd b c.2
  ·rw [if_neg b, if_neg b]
 ·rw [if_neg a, if_neg a]
  have c : cF N E g s t lv x = cF N E' g s t lv x := by
   rcases c with c | c
   ·exact c
   ·exact absurd c.1 a
  rw [c]
  have : ((outs (E'.filter (lvE lv)) x).any fun y => decide (y ∈ bad)) = (outs (E.filter (lvE lv)) x).any fun y => decide (y ∈ bad) := by
   rw [Bool.eq_iff_iff]
   simp only [List.any_eq_true, mem_outs, List.mem_filter, decide_eq_true_eq]
   constructor
   ·rintro ⟨y, ⟨e, ⟨q1, q2⟩, q3, q4⟩, q5⟩
    rcases h2 e q1 with z | z
    ·exact ⟨y, ⟨e, ⟨z, q2⟩, q3, q4⟩, q5⟩
    ·exact absurd (q3 ▸ z.1) a
   ·rintro ⟨y, ⟨e, ⟨q1, q2⟩, q3, q4⟩, q5⟩
    exact ⟨y, ⟨e, ⟨h1 e q1, q2⟩, q3, q4⟩, q5⟩
  rw [this]
end Go.TF
