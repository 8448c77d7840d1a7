/- Plain laws: the laws CapacityMore and CapacityBounds. -/
import Derived.Test.YtmiimcogppdepaaBaPca
set_option linter.unusedVariables false
set_option linter.unusedSimpArgs false
namespace Go.TF
open Go Go.Abs
theorem ofC_neg {t : List Int} {d : Int} (h : d < 0) : ofC t d = 0 := by unfold ofC; rw [if_pos h]
theorem ofC_at {t : List Int} {i : Nat} (h : i < t.length) : ofC t (i : Int) = t[i] := by
 unfold ofC; rw [if_neg (by omega), if_pos (by omega)]
 simp [List.getD_eq_getElem?_getD, List.getElem?_eq_getElem h]
theorem ofC_far {t : List Int} {d : Int} (h0 : 0 ≤ d) (h : (t.length : Int) ≤ d) : ofC t d = 1 := by
 unfold ofC; rw [if_neg (by omega), if_neg (by omega)]
theorem ofC_pos {t : List Int} (ht : ∀ x ∈ t, 1 ≤ x) {d : Int} (h0 : 0 ≤ d) : 1 ≤ ofC t d := by
 obtain ⟨i, rfl⟩ := Int.eq_ofNat_of_zero_le h0
 by_cases h : i < t.length
 ·rw [ofC_at h]; exact ht _ (List.getElem_mem h)
 ·rw [ofC_far h0 (by omega)]; omega
theorem ofC_mono {t : List Int} (ht : ∀ x ∈ t, 1 ≤ x) (td : t.Pairwise (fun a b => b ≤ a)) {d e : Int} (h0 : 0 ≤ e) (h : e ≤ d) : ofC t d ≤ ofC t e := by
 obtain ⟨i, rfl⟩ := Int.eq_ofNat_of_zero_le h0
 obtain ⟨j, rfl⟩ := Int.eq_ofNat_of_zero_le (show 0 ≤ d by omega)
 by_cases hj : j < t.length
 ·have hi : i < t.length := by omega
  rw [ofC_at hj, ofC_at hi]
  by_cases e : i = j
  ·subst e; omega
  ·exact List.pairwise_iff_getElem.1 td i j hi hj (by omega)
 ·rw [ofC_far (t := t) (d := (j : Int)) (by omega) (by omega)]
  exact ofC_pos ht h0
theorem ofC_two (t : List Int) (ht : ∀ x ∈ t, 1 ≤ x) (d : Int) : ofC t d ≤ ofC (t.map (· + 2)) d ∧ (ofC (t.map (· + 2)) d = 0 ↔ ofC t d = 0) := by
 by_cases h0 : d < 0
 ·rw [ofC_neg h0, ofC_neg h0]; simp
 ·obtain ⟨i, rfl⟩ := Int.eq_ofNat_of_zero_le (show 0 ≤ d by omega)
  by_cases h : i < t.length
  ·have := ht _ (List.getElem_mem h)
   rw [ofC_at h, ofC_at (by simpa using h), List.getElem_map]; omega
  ·rw [ofC_far (by omega) (by omega), ofC_far (by omega) (by simp; omega)]; simp
theorem PV.t100 {N : Nat} {s t : List Int} {lv : Int} (h : PV N s t lv) : ∀ x ∈ t, 0 ≤ x ∧ x ≤ 100000 := fun x hx => by have := h.tr x hx; omega
theorem cAll_more {N : Nat} {E E' : List api_Edge} {g s t : List Int} {lv : Int} (pv : PV N s t lv) (h : ∀ e ∈ E, e ∈ E') (v : Int) : cF N E g s t lv v ≤ cF N E' g s t lv v := by
 unfold cF
 by_cases z : dE (E.filter (lvE lv)) (sS s g) N v = -1
 ·rw [z, ofC_neg (by omega)]
  rcases Dist.dst_range (E := (E'.filter (lvE lv)).map pr) (S := sS s g) N v with q | q
  ·rw [show dE (E'.filter (lvE lv)) (sS s g) N v = -1 from q, ofC_neg (by omega)]; omega
  ·have := ofC_pos (t := t) (fun x hx => (pv.tr x hx).1) q.1
   show 0 ≤ ofC t (Dist.dst ((E'.filter (lvE lv)).map pr) (sS s g) N v)
   omega
 ·obtain ⟨q1, q2⟩ := Dist.dst_mono (E := (E.filter (lvE lv)).map pr) (E' := (E'.filter (lvE lv)).map pr) (S := sS s g) (S' := sS s g) (fun e he => by
   obtain ⟨x, hx, rfl⟩ := List.mem_map.1 he
   rw [List.mem_filter] at hx
   exact List.mem_map_of_mem (List.mem_filter.2 ⟨h x hx.1, hx.2⟩)) (fun _ h => h) N v z
  rcases Dist.dst_range (E := (E'.filter (lvE lv)).map pr) (S := sS s g) N v with q | q
  ·exact absurd q q1
  ·exact ofC_mono (fun x hx => (pv.tr x hx).1) pv.td q.1 q2
theorem addB_keys {Ev : List api_Edge} {s ks ks' : List Int} {c : Int → Int} (h : ∀ y, y ∈ ks ↔ y ∈ ks') (x : Int) : addB Ev s ks c x = addB Ev s ks' c x := by
 have e : (fun y => decide (y ∈ ks)) = fun y => decide (y ∈ ks') := by funext y; simp [h y]
 unfold addB; rw [e]; simp only [h x]
theorem turned_L2 (N N' : Int) (E E' : List api_Edge) (g g' s t bad : List Int) (lv : Int) (hb : bad.length ≤ 100) : ∀ (m n : Nat) (acc : List Int), m ≤ bad.length → m < n → (∀ y, y ∈ acc ↔ y ∈ bad.drop m) → acc.length + 2 * m ≤ 200 →
 ∃ ks n', (∀ y, y ∈ ks ↔ y ∈ bad) ∧ ks.length ≤ 200 ∧ law13_CapacityBounds.L2 1000 N E g s t lv bad N' E' g' n ((m : Int) - 1) acc = law13_CapacityBounds.L2 1000 N E g s t lv bad N' E' g' (n' + 1) (-1) ks
 | 0, n + 1, acc, _, _, h1, h2 => ⟨acc, n, fun y => by simpa using h1 y, by omega, rfl⟩
 | m + 1, n + 1, acc, h, hn, h1, h2 => by
  have hi : m < bad.length := by omega
  obtain ⟨ks, n', q1, q2, q3⟩ := turned_L2 N N' E E' g g' s t bad lv hb m n (acc ++ [bad[m], bad[m]]) (by omega) (by omega) (fun y => by
   rw [List.mem_append, h1 y, List.drop_eq_getElem_cons hi, List.mem_cons]
   simp only [List.mem_cons, List.not_mem_nil, or_false, or_self]
   exact or_comm) (by simp only [List.length_append, List.length_cons, List.length_nil]; omega)
  refine ⟨ks, n', q1, q2, ?_⟩
  rw [← q3, law13_CapacityBounds.L2, if_pos (by omega), show ((m + 1 : Nat) : Int) - 1 = (m : Int) by omega, idx_pos hi, chk_pos (by simp only [List.length_cons, List.length_nil]; omega), w64 (by omega) (by omega)]
theorem same_L6 (N N' : Int) (n0 : Nat) (E E' : List api_Edge) (g g' s t bad ks : List Int) (lv : Int) (fa fb : Int → Int) (hn0 : n0 ≤ 100) (hb : bad.length ≤ 100) (hs : s.length ≤ 100) : ∀ (m i n : Nat) (b : Bool), i + m = n0 → m < n →
 ∃ r, law13_CapacityBounds.L6 1000 N E g s t lv bad N' E' g' ks (tab n0 fa) (tab n0 fb) n b (i : Int) = law13_CapacityBounds.J3 1000 N E g s t lv bad N' E' g' ks r ∧ (r = true → b = true ∧ ∀ v : Int, i ≤ v → v < n0 → fa v = fb v ∨ (v ∈ bad ∧ v ∉ s))
 | 0, i, n + 1, b, h, _ => by
  rw [law13_CapacityBounds.L6, if_neg (by rw [tab_len]; omega)]
  exact ⟨b, rfl, fun hr => ⟨hr, fun v _ _ => by omega⟩⟩
 | m + 1, i, n + 1, b, h, hn => by
  rw [law13_CapacityBounds.L6, if_pos (by rw [tab_len]; omega)]
  by_cases hb0 : b = true
  ·rw [if_pos hb0, idx_tab (by omega) (by omega), idx_tab (by omega) (by omega)]
   unfold law13_CapacityBounds.J7
   have step : ∀ b', (b' = true → fa (i : Int) = fb (i : Int) ∨ ((i : Int) ∈ bad ∧ (i : Int) ∉ s)) → ∃ r, law13_CapacityBounds.L6 1000 N E g s t lv bad N' E' g' ks (tab n0 fa) (tab n0 fb) n b' (IntKind.wrap .i64 ((i : Int) + 1)) = law13_CapacityBounds.J3 1000 N E g s t lv bad N' E' g' ks r ∧ (r = true → b = true ∧ ∀ v : Int, i ≤ v → v < n0 → fa v = fb v ∨ (v ∈ bad ∧ v ∉ s)) := by
    intro b' hb'
    obtain ⟨r, q1, q2⟩ := same_L6 N N' n0 E E' g g' s t bad ks lv fa fb hn0 hb hs m (i + 1) n b' (by omega) (by omega)
    rw [sc64 i (by omega)]
    refine ⟨r, q1, fun hr => ⟨hb0, fun v h1 h2 => ?_⟩⟩
    obtain ⟨q3, q4⟩ := q2 hr
    by_cases z : v = (i : Int)
    ·subst z; exact hb' q3
    ·exact q4 v (by omega) h2
   by_cases z : fa (i : Int) = fb (i : Int)
   ·rw [if_pos z]; exact step true fun _ => .inl z
   ·rw [if_neg z, rHas_eq 1000 bad _ (by omega) (by omega), bnd1_some]
    by_cases w : (i : Int) ∈ bad
    ·rw [if_pos (by simpa using w), rHas_eq 1000 s _ (by omega) (by omega), bnd1_some]
     exact step _ fun hx => .inr ⟨w, by simpa using hx⟩
    ·rw [if_neg (by simpa using w)]
     exact step false fun hx => by cases hx
  ·rw [if_neg hb0]
   exact ⟨b, rfl, fun hr => absurd hr hb0⟩
def seedS (bad : List Int) (c : Int) : List Int → Int
 | [] => 0
 | x :: l => (if x ∈ bad then c else 0) + seedS bad c l
theorem seedS_range (bad : List Int) (c : Int) (h0 : 0 ≤ c) : ∀ l : List Int, 0 ≤ seedS bad c l ∧ seedS bad c l ≤ l.length * c
 | [] => by simp [seedS]
 | x :: l => by
  have := seedS_range bad c h0 l
  have e : ((l.length + 1 : Nat) : Int) * c = l.length * c + c := by rw [show ((l.length + 1 : Nat) : Int) = (l.length : Int) + 1 by omega, Int.add_mul]; omega
  rw [seedS, List.length_cons, e]
  split <;> omega
theorem sumB_delta (g : Int → Int) (a c : Int) : ∀ n : Nat, sumB (fun x => (if x = a then c else 0) + g x) n = (if 0 ≤ a ∧ a < n then c else 0) + sumB g n
 | 0 => by simp [sumB]; omega
 | n + 1 => by
  rw [sumB, sumB, sumB_delta g a c n]
  by_cases h : (n : Int) = a
  ·subst h; rw [if_neg (by omega), if_pos rfl, if_pos (by omega)]; omega
  ·rw [if_neg h]
   by_cases h2 : 0 ≤ a ∧ a < n
   ·rw [if_pos h2, if_pos (by omega)]; omega
   ·rw [if_neg h2, if_neg (by omega)]; omega
theorem sumB_zero : ∀ n : Nat, sumB (fun _ => 0) n = 0
 | 0 => rfl
 | n + 1 => by rw [sumB, sumB_zero n]; rfl
theorem sumB_seeds (bad : List Int) (c : Int) (n : Nat) : ∀ s : List Int, (∀ x ∈ s, 0 ≤ x ∧ x < n) → s.Pairwise (· < ·) → sumB (fun x => if x ∈ bad ∧ x ∈ s then c else 0) n = seedS bad c s
 | [], _, _ => by simp [seedS, sumB_zero]
 | a :: s, h, hp => by
  rw [List.pairwise_cons] at hp
  have ha := h a (by simp)
  rw [seedS, ← sumB_seeds bad c n s (fun x hx => h x (by simp [hx])) hp.2]
  have e : (fun x : Int => if x ∈ bad ∧ x ∈ a :: s then c else 0) = fun x => (if x = a then (if a ∈ bad then c else 0) else 0) + (if x ∈ bad ∧ x ∈ s then c else 0) := by
   funext x
   by_cases q : x = a
   ·subst q
    have : x ∉ s := fun hx => by have := hp.1 x hx; omega
    simp [this]
   ·simp [q]
  rw [e, sumB_delta, if_pos ha]
theorem seeds_L4 (N N' : Int) (E E' : List api_Edge) (g g' s t bad ks : List Int) (lv : Int) (b : Bool) (c : Int) (hb : bad.length ≤ 100) (hs : s.length ≤ 100) (ht : 0 < t.length) (hc : t[0] ≤ 1000 ∧ 0 ≤ t[0]) : ∀ (m i n : Nat) (acc : Int), i + m = s.length → m < n → 0 ≤ acc → acc ≤ 1000 * i →
 ∃ n', law13_CapacityBounds.L4 1000 N E g s t lv bad N' E' g' ks b c n acc (i : Int) = law13_CapacityBounds.L4 1000 N E g s t lv bad N' E' g' ks b c (n' + 1) (acc + seedS bad t[0] (s.drop i)) (s.length : Int)
 | 0, i, n + 1, acc, h, _, a0, a1 => by
  have : i = s.length := by omega
  subst this
  exact ⟨n, by rw [List.drop_length, seedS, Int.add_zero]⟩
 | m + 1, i, n + 1, acc, h, hn, a0, a1 => by
  have hi : i < s.length := by omega
  rw [law13_CapacityBounds.L4, if_pos (by omega), idx_pos hi, rHas_eq 1000 bad _ (by omega) (by omega), bnd1_some, List.drop_eq_getElem_cons hi, seedS]
  unfold law13_CapacityBounds.J5
  by_cases w : s[i] ∈ bad
  ·rw [if_pos (by simpa using w), show (0 : Int) = ((0 : Nat) : Int) from rfl, idx_pos ht, if_pos w, w64 (by omega) (by omega), sc64 i (by omega), ← Int.add_assoc]
   exact seeds_L4 N N' E E' g g' s t bad ks lv b c hb hs ht hc m (i + 1) n (acc + t[0]) (by omega) (by omega) (by omega) (by omega)
  ·rw [if_neg (by simpa using w), if_neg w, Int.zero_add, sc64 i (by omega)]
   exact seeds_L4 N N' E E' g g' s t bad ks lv b c hb hs ht hc m (i + 1) n acc (by omega) (by omega) a0 (by omega)
theorem bndF_range {N : Nat} {E : List api_Edge} {g s t : List Int} {lv : Int} (pv : PV N s t lv) (ks : List Int) : 0 ≤ bndF N E g s t lv ks :=
 (sumB_range (M := 100000) (fun x => addB_range (fun y => ofC_range pv.t100 _) x) N).1
theorem bnd_alone {N : Nat} {s t bad : List Int} {lv : Int} (pv : PV N s t lv) (h : 0 < t.length) : bndF N [] [] s t lv bad = seedS bad t[0] s := by
 rw [← sumB_seeds bad t[0] N s pv.sr pv.sa]
 unfold bndF
 refine sumB_congr N fun x _ _ => ?_
 unfold addB
 have o : outs ([].filter (lvE lv)) x = [] := rfl
 rw [o]
 by_cases a : x ∈ bad
 ·by_cases b : x ∈ s
  ·rw [if_pos a, if_pos b, if_pos ⟨a, b⟩]
   unfold cF
   have d0 : Dist.dst (List.map pr ([].filter (lvE lv))) (sS s []) 0 x = 0 := by simp [Dist.dst, sS, b]
   have : dE ([].filter (lvE lv)) (sS s []) N x = 0 := by
    have := Dist.dst_keep (k := 0) (v := x) (E := List.map pr ([].filter (lvE lv))) (S := sS s []) (by rw [d0]; omega) N
    rw [d0, Nat.zero_add] at this
    exact this
   rw [this, show (0 : Int) = ((0 : Nat) : Int) from rfl, ofC_at h]
  ·rw [if_pos a, if_neg b, if_neg (fun q => b q.2)]
 ·rw [if_neg a, if_neg (by simp), if_neg (fun q => a q.1)]
theorem bnd_same {N : Nat} {E E' : List api_Edge} {g s t bad : List Int} {lv : Int} (h1 : ∀ e ∈ E, e ∈ E') (h2 : ∀ e ∈ E', e ∈ E ∨ (e.From ∈ bad ∧ e.To ∈ bad)) (hc : ∀ v : Int, 0 ≤ v → v < N → cF N E g s t lv v = cF N E' g s t lv v ∨ (v ∈ bad ∧ v ∉ s)) : bndF N E' g s t lv bad = bndF N E g s t lv bad := by
 unfold bndF
 refine sumB_congr N fun x x0 x1 => ?_
 unfold addB
 have c := hc x x0 x1
 by_cases a : x ∈ bad
 ·rw [if_pos a, if_pos a]
  by_cases b : x ∈ s
  ·rw [if_pos b, if_pos b]
   rcases c with c | c
   ·exact c.symm
   ·exact absurd b c.2
  ·rw [if_neg b, if_neg b]
 ·rw [if_neg a, if_neg a]
  have c : cF N E g s t lv x = cF N E' g s t lv x := by
   rcases c with c | c
   ·exact c
   ·exact absurd c.1 a
  rw [c]
  have : ((outs (E'.filter (lvE lv)) x).any fun y => decide (y ∈ bad)) = (outs (E.filter (lvE lv)) x).any fun y => decide (y ∈ bad) := by
   rw [Bool.eq_iff_iff]
   simp only [List.any_eq_true, mem_outs, List.mem_filter, decide_eq_true_eq]
   constructor
   ·rintro ⟨y, ⟨e, ⟨q1, q2⟩, q3, q4⟩, q5⟩
    rcases h2 e q1 with z | z
    ·exact ⟨y, ⟨e, ⟨z, q2⟩, q3, q4⟩, q5⟩
    ·exact absurd (q3 ▸ z.1) a
   ·rintro ⟨y, ⟨e, ⟨q1, q2⟩, q3, q4⟩, q5⟩
    exact ⟨y, ⟨e, ⟨h1 e q1, q2⟩, q3, q4⟩, q5⟩
  rw [this]
theorem bounds_J1 (N : Nat) (E E' : List api_Edge) (g s t bad : List Int) (lv : Int) (G : GV N E g) (ok' : okG (N : Int) E' g = true) (pv : PV N s t lv) (hb : bad.length ≤ 100)
 (h1 : ∀ e ∈ E, e ∈ E') (h2 : ∀ e ∈ E', e ∈ E ∨ (e.From ∈ bad ∧ e.To ∈ bad)) : law13_CapacityBounds.J1 1000 (N : Int) E g s t lv bad (N : Int) E' g = some true := by
 have G' : GV N E' g := ⟨G.pos, G.le, ok'⟩
 have G0 : GV N [] [] := ⟨G.pos, G.le, by rw [okG_iff]; have := G.le; simp; omega⟩
 have hs := pv.sl; have ht := pv.t0; have ht9 := pv.t9; have hN := G.le
 have htr := pv.t100
 unfold law13_CapacityBounds.J1
 rw [w64 (by omega) (by omega)]
 obtain ⟨ks, n', k1, k2, k3⟩ := turned_L2 (N : Int) (N : Int) E E' g g s t bad lv hb bad.length 1000 [] (by omega) (by omega) (by simp) (by simp only [List.length_nil]; omega)
 rw [k3, law13_CapacityBounds.L2, if_neg (by omega), pAll_eq N E g s t lv G (by omega) (by omega) pv.sr, bnd1_some, pAll_eq N E' g s t lv G' (by omega) (by omega) pv.sr, bnd1_some]
 unfold cAll
 obtain ⟨r, q1, q2⟩ := same_L6 (N : Int) (N : Int) N E E' g g s t bad ks lv (fun v => ofC t (dE (E.filter (lvE lv)) (sS s g) N v)) (fun v => ofC t (dE (E'.filter (lvE lv)) (sS s g) N v)) (by omega) hb (by omega) N 0 1000 ((((tab N fun v => ofC t (dE (E.filter (lvE lv)) (sS s g) N v)).length : Nat) : Int) == (((tab N fun v => ofC t (dE (E'.filter (lvE lv)) (sS s g) N v)).length : Nat) : Int)) (by omega) (by omega)
 rw [show (0 : Int) = ((0 : Nat) : Int) from rfl, q1]
 unfold law13_CapacityBounds.J3
 rw [pBound_eq N E g s t lv bad G (by omega) (by omega) (by omega) pv.sr htr, bnd1_some]
 have t0 : t[0]'(by omega) ≤ 7 ∧ 1 ≤ t[0]'(by omega) := (pv.tr _ (List.getElem_mem _)).symm
 obtain ⟨n2, k4⟩ := seeds_L4 (N : Int) (N : Int) E E' g g s t bad ks lv r (bndF N E g s t lv bad) hb (by omega) (by omega) (by omega) s.length 0 1000 0 (by omega) (by omega) (by omega) (by omega)
 rw [show (0 : Int) = ((0 : Nat) : Int) from rfl] at k4 ⊢
 rw [k4, law13_CapacityBounds.L4, if_neg (by omega), awake13, bnd1_some, if_pos rfl, pBound_eq N E g s t lv ks G (by omega) (by omega) k2 pv.sr htr, bnd1_some]
 have ek : bndF N E g s t lv ks = bndF N E g s t lv bad := by unfold bndF; exact sumB_congr N fun x _ _ => addB_keys k1 x
 rw [if_pos ek, List.drop_zero]
 have p0 := bndF_range (E := E) (g := g) pv bad
 have last : (bnd1 (capacity_Bound 1000 (N : Int) [] [] s t lv bad) fun v37 => if v37 = ((0 : Nat) : Int) + seedS bad (t[0]'(by omega)) s then some (decide (((0 : Nat) : Int) ≤ bndF N E g s t lv bad)) else some false) = some true := by
  rw [pBound_eq N [] [] s t lv bad G0 (by omega) (by omega) (by omega) pv.sr htr, bnd1_some, bnd_alone pv (by omega), if_pos (by omega)]
  simpa using p0
 by_cases hr : r = true
 ·rw [if_neg (by simp [hr]), pBound_eq N E' g s t lv bad G' (by omega) (by omega) (by omega) pv.sr htr, bnd1_some, if_pos (bnd_same h1 h2 fun v v0 v1 => (q2 hr).2 v (by omega) v1)]
  exact last
 ·rw [if_pos (by simpa using hr)]
  exact last
theorem bounds_L8 (l : List Int) (N : Nat) (E : List api_Edge) (g s t bad : List Int) (lv : Int) (hl : l.length ≤ 1000) (G : GV N E g) (pv : PV N s t lv) (hb : bad.length ≤ 100) : ∀ (m n : Nat) (p : Int) (E' : List api_Edge), m < n → m ≤ 1000 → Pos p → okG (N : Int) E' g = true →
 (∀ e ∈ E, e ∈ E') → (∀ e ∈ E', e ∈ E ∨ (e.From ∈ bad ∧ e.To ∈ bad)) → law13_CapacityBounds.L8 1000 l (N : Int) E g s t lv bad n (m : Int) p (N : Int) E' g = some true
 | 0, n + 1, p, E', _, _, hp, ok, h1, h2 => by
  rw [law13_CapacityBounds.L8, if_neg (by omega)]
  exact bounds_J1 N E E' g s t bad lv G ok pv hb h1 h2
 | m + 1, n + 1, p, E', hn, hm, hp, ok, h1, h2 => by
  rw [law13_CapacityBounds.L8, if_pos (by omega)]
  by_cases hz : 0 < (bad.length : Int)
  ·rw [if_pos hz]
   obtain ⟨a, q, e, hq, ha⟩ := Next_eq 1000 l p (bad.length : Int) hl hp
   have ha := ha (by omega) (by omega)
   obtain ⟨b, q2, e2, hq2, hb2⟩ := Next_eq 1000 l q (bad.length : Int) hl hq
   have hb2 := hb2 (by omega) (by omega)
   obtain ⟨c, q3, e3, hq3, _⟩ := Next_eq 1000 l q2 3 hl hq2
   obtain ⟨i, rfl⟩ := Int.eq_ofNat_of_zero_le ha.1
   obtain ⟨j, rfl⟩ := Int.eq_ofNat_of_zero_le hb2.1
   have hi : i < bad.length := by omega
   have hj : j < bad.length := by omega
   rw [e, bnd2_some, idx_pos hi, e2, bnd2_some, idx_pos hj, e3, bnd2_some]
   obtain ⟨N2, E2, g2, r, e5, h5⟩ := with_eq 1000 (N : Int) E' g bad[i] bad[j] (IntKind.wrap .i64 (1 + c)) (by omega) ok
   rw [e5, bnd4_some]
   unfold law13_CapacityBounds.J9
   rw [pr64 m (by omega)]
   by_cases hr : r = 0
   ·obtain ⟨rfl, rfl, k1, k2⟩ := h5 hr
    rw [if_pos hr]
    refine bounds_L8 l N E g2 s t bad lv hl G pv hb m n q3 E2 (by omega) (by omega) hq3 k1 (fun x hx => (k2 x).2 (.inl (h1 x hx))) fun x hx => ?_
    rcases (k2 x).1 hx with z | rfl
    ·exact h2 x z
    ·exact .inr ⟨List.getElem_mem hi, List.getElem_mem hj⟩
   ·rw [if_neg hr]
    exact bounds_L8 l N E g s t bad lv hl G pv hb m n q3 E' (by omega) (by omega) hq3 ok h1 h2
  ·rw [if_neg hz]
   exact bounds_J1 N E E' g s t bad lv G ok pv hb h1 h2
theorem CapacityBounds_true (v0 : List Int) (h0 : Fit (.lst false false (v0.map (.int .i64)))) : law13_CapacityBounds 1000 v0 = some true := by
 unfold law13_CapacityBounds
 rw [Light_eq, bnd1_some]
 by_cases h : (v0.length : Int) ≤ 400
 ·rw [if_neg (by simpa using h), Roll_eq, bnd2_some]
  obtain ⟨N, E, g, q, e, hq, n1, n2, ok⟩ := Graph_eq v0 0 (by omega) ⟨by omega, by omega⟩
  have G : GV N E g := ⟨by omega, by omega, ok⟩
  have hgl := G.glen; have hel := G.len
  obtain ⟨s, t, lv, q2, e2, hq2, pv⟩ := Policy_eq v0 q N E g (by omega) hq (by omega) (by omega)
  obtain ⟨bad, q3, e3, hq3, _, _, hk⟩ := Some_eq 1000 v0 q2 (N : Int) (by omega) hq2 (by omega) (by omega) (by omega)
  rw [e, bnd4_some, e2, bnd4_some, e3, bnd2_some]
  unfold ref11_Copy_o
  rw [chk_pos (by omega), chk_pos (by omega), bnd3_some]
  obtain ⟨m, q4, e4, hq4, hm⟩ := Next_eq 1000 v0 q3 5 (by omega) hq3
  have hm := hm (by omega) (by omega)
  obtain ⟨m, rfl⟩ := Int.eq_ofNat_of_zero_le hm.1
  rw [e4, bnd2_some]
  exact bounds_L8 v0 N E g s t bad lv (by omega) G pv (by omega) m 1000 q4 E (by omega) (by omega) hq4 ok (fun _ h => h) fun _ h => .inl h
 ·rw [if_pos (by simpa using h), awake13, bnd1_some]
end Go.TF
