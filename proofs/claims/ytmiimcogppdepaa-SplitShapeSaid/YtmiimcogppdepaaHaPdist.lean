namespace Go.TF.Dist
def dst (E : List (Int × Int)) (S : Int → Bool) : Nat → Int → Int
 | 0, v => if S v then 0 else -1
 | k + 1, v => if dst E S k v ≠ -1 then dst E S k v else if E.any (fun e => e.2 == v && dst E S k e.1 == (k : Int)) then (k : Int) + 1 else -1
variable {E : List (Int × Int)} {S : Int → Bool}
theorem dst_range (k : Nat) (v : Int) : dst E S k v = -1 ∨ (0 ≤ dst E S k v ∧ dst E S k v ≤ k) := by
 induction k with
 | zero => unfold dst; split <;> simp
 | succ k ih =>
  unfold dst; split
  ·rcases ih with h | h
   ·contradiction
   ·right; omega
  ·split
   ·right; omega
   ·left; rfl
theorem dst_ge (k : Nat) (v : Int) : -1 ≤ dst E S k v := by have := dst_range (E := E) (S := S) k v; omega
theorem dst_keep {k : Nat} {v : Int} (h : dst E S k v ≠ -1) : ∀ j, dst E S (k + j) v = dst E S k v := by
 intro j; induction j with
 | zero => rfl
 | succ j ih => rw [← Nat.add_assoc]; rw [show dst E S (k + j + 1) v = if dst E S (k + j) v ≠ -1 then dst E S (k + j) v else _ from rfl, if_pos (by rw [ih]; exact h), ih]
theorem dst_succ {k : Nat} {v : Int} : dst E S (k + 1) v = (k : Int) + 1 ↔ dst E S k v = -1 ∧ ∃ u, (u, v) ∈ E ∧ dst E S k u = k := by
 have hr := dst_range (E := E) (S := S) k v
 rw [show dst E S (k + 1) v = if dst E S k v ≠ -1 then dst E S k v else if E.any (fun e => e.2 == v && dst E S k e.1 == (k : Int)) then (k : Int) + 1 else -1 from rfl]
 by_cases h : dst E S k v ≠ -1
 ·rw [if_pos h]; constructor
  ·intro e; omega
  ·intro e; exact absurd e.1 h
 ·rw [if_neg h]; have h' : dst E S k v = -1 := Classical.not_not.1 h
  split
  ·rename_i a
   simp only [List.any_eq_true, Bool.and_eq_true, beq_iff_eq] at a
   obtain ⟨⟨x, y⟩, m, rfl, e⟩ := a
   exact ⟨fun _ => ⟨h', x, m, e⟩, fun _ => rfl⟩
  ·rename_i a
   simp only [List.any_eq_true, Bool.and_eq_true, beq_iff_eq, not_exists, not_and] at a
   exact ⟨fun e => by omega, fun ⟨_, u, m, e⟩ => absurd e (a (u, v) m rfl)⟩
theorem dst_step {k : Nat} {v : Int} : dst E S (k + 1) v = if dst E S (k + 1) v = (k : Int) + 1 then (k : Int) + 1 else dst E S k v := by
 have hr := dst_range (E := E) (S := S) k v
 by_cases h : dst E S (k + 1) v = (k : Int) + 1
 ·rw [if_pos h, h]
 ·rw [if_neg h]
  rw [show dst E S (k + 1) v = if dst E S k v ≠ -1 then dst E S k v else if E.any (fun e => e.2 == v && dst E S k e.1 == (k : Int)) then (k : Int) + 1 else -1 from rfl] at h ⊢
  split
  ·rfl
  ·rename_i a
   rw [if_neg a] at h
   rw [Classical.not_not.1 a]
   split
   ·rename_i b; rw [if_pos b] at h; exact absurd rfl h
   ·rfl
theorem dst_stop {k : Nat} (h : ∀ v, dst E S k v ≠ (k : Int)) : ∀ j v, dst E S (k + j) v = dst E S k v := by
 intro j; induction j with
 | zero => intro v; rfl
 | succ j ih =>
  intro v; rw [← Nat.add_assoc, dst_step, if_neg, ih]
  rw [show ((k + j : Nat) : Int) + 1 = ((k + j : Nat) : Int) + 1 from rfl, dst_succ]
  rintro ⟨_, u, _, e⟩
  rw [ih] at e
  have hr := dst_range (E := E) (S := S) k u
  by_cases hj : j = 0
  ·subst hj; exact h u (by simpa using e)
  ·omega
def cnt (E : List (Int × Int)) (S : Int → Bool) (n k : Nat) : Nat := ((List.range n).filter fun (x : Nat) => decide (dst E S k (x : Int) ≠ -1)).length
theorem cnt_le (n k : Nat) : cnt E S n k ≤ n := by
 unfold cnt; exact Nat.le_trans (List.length_filter_le _ _) (by simp)
theorem filter_lt {α : Type} (p q : α → Bool) (l : List α) (h : ∀ x ∈ l, p x = true → q x = true) (y : α) (hy : y ∈ l) (hp : p y = false) (hq : q y = true) : (l.filter p).length < (l.filter q).length := by
 induction l with
 | nil => cases hy
 | cons a l ih =>
  have hle : (l.filter p).length ≤ (l.filter q).length := by
   clear ih hy
   induction l with
   | nil => simp
   | cons b l ih =>
    have ih' := ih (fun x hx => h x (by rcases List.mem_cons.1 hx with rfl | hx; simp; exact List.mem_cons_of_mem _ (List.mem_cons_of_mem _ hx)))
    by_cases hb : p b = true
    ·simp [List.filter_cons, hb, h b (by simp) hb]; exact ih'
    ·by_cases hb' : q b = true
     ·simp [List.filter_cons, hb, hb']; omega
     ·simp [List.filter_cons, hb, hb']; exact ih'
  rcases List.mem_cons.1 hy with rfl | hy
  ·simp [List.filter_cons, hp, hq]; omega
  ·have := ih (fun x hx => h x (List.mem_cons_of_mem _ hx)) hy
   by_cases ha : p a = true
   ·simp [List.filter_cons, ha, h a (by simp) ha]; exact this
   ·by_cases ha' : q a = true
    ·simp [List.filter_cons, ha, ha']; omega
    ·simp [List.filter_cons, ha, ha']; exact this
theorem cnt_ge (n : Nat) (hS : ∀ v, S v = true → 0 ≤ v ∧ v < n) (hE : ∀ e ∈ E, 0 ≤ e.2 ∧ e.2 < n) : ∀ k : Nat, (∃ v, dst E S k v = (k : Int)) → k + 1 ≤ cnt E S n k := by
 have hin : ∀ (k : Nat) (v : Int), dst E S k v ≠ -1 → 0 ≤ v ∧ v < n := by
  intro k; induction k with
  | zero => intro v h; unfold dst at h; split at h; exact hS v ‹_›; exact absurd rfl h
  | succ k ih =>
   intro v h; unfold dst at h; split at h
   ·exact ih v ‹_›
   ·split at h
    ·rename_i a
     simp only [List.any_eq_true, Bool.and_eq_true, beq_iff_eq] at a
     obtain ⟨e, m, rfl, _⟩ := a
     exact hE e m
    ·exact absurd rfl h
 intro k; induction k with
 | zero =>
  rintro ⟨v, h⟩
  have hv := hin 0 v (by rw [h]; simp)
  have : 0 < cnt E S n 0 := by
   unfold cnt
   apply List.length_pos_of_mem (a := v.toNat)
   rw [List.mem_filter]
   refine ⟨by simp; omega, ?_⟩
   rw [decide_eq_true_iff, show ((v.toNat : Nat) : Int) = v by omega, h]; simp
  omega
 | succ k ih =>
  rintro ⟨v, h⟩
  have h' := (dst_succ (k := k) (v := v)).1 (by simpa using h)
  obtain ⟨h1, u, m, h2⟩ := h'
  have := ih ⟨u, h2⟩
  have hv := hin (k + 1) v (by rw [h]; simp; omega)
  have : cnt E S n k < cnt E S n (k + 1) := by
   unfold cnt
   refine filter_lt _ _ _ (fun x _ hx => ?_) v.toNat (by simp; omega) ?_ ?_
   ·rw [decide_eq_true_iff] at hx ⊢
    rw [dst_keep hx 1]; exact hx
   ·rw [decide_eq_false_iff_not, show ((v.toNat : Nat) : Int) = v by omega, h1]; simp
   ·rw [decide_eq_true_iff, show ((v.toNat : Nat) : Int) = v by omega, h]; simp; omega
  omega
theorem dst_lt (n : Nat) (hS : ∀ v, S v = true → 0 ≤ v ∧ v < n) (hE : ∀ e ∈ E, 0 ≤ e.2 ∧ e.2 < n) (k : Nat) (v : Int) (h : dst E S k v = (k : Int)) : k < n := by
 have := cnt_ge (E := E) (S := S) n hS hE k ⟨v, h⟩; have := cnt_le (E := E) (S := S) n k; omega
theorem dst_at : ∀ (k j : Nat) (v : Int), dst E S k v = (j : Int) → dst E S j v = (j : Int) := by
 intro k; induction k with
 | zero =>
  intro j v h
  have := dst_range (E := E) (S := S) 0 v
  have : j = 0 := by omega
  subst this; exact h
 | succ k ih =>
  intro j v h
  by_cases e : j = k + 1
  ·subst e; exact h
  ·rw [dst_step] at h
   by_cases e' : dst E S (k + 1) v = (k : Int) + 1
   ·rw [if_pos e'] at h; omega
   ·rw [if_neg e'] at h; exact ih j v h
theorem dst_from {k j : Nat} {u v : Int} (h : dst E S k u = (j : Int)) (hj : j < k) (he : (u, v) ∈ E) : dst E S k v ≠ -1 := by
 have h1 := dst_at k j u h
 have : dst E S (j + 1) v ≠ -1 := by
  by_cases e : dst E S j v = -1
  ·rw [show dst E S (j + 1) v = (j : Int) + 1 from (dst_succ).2 ⟨e, u, he, h1⟩]; omega
  ·rw [dst_keep e 1]; exact e
 obtain ⟨d, rfl⟩ : ∃ d, k = j + 1 + d := ⟨k - (j + 1), by omega⟩
 rw [dst_keep this d]; exact this
theorem dst_mono {E' : List (Int × Int)} {S' : Int → Bool} (hE : ∀ e ∈ E, e ∈ E') (hS : ∀ v, S v = true → S' v = true) : ∀ (k : Nat) (v : Int), dst E S k v ≠ -1 → dst E' S' k v ≠ -1 ∧ dst E' S' k v ≤ dst E S k v := by
 intro k; induction k with
 | zero =>
  intro v h; unfold dst at h ⊢
  by_cases e : S v = true
  ·rw [if_pos e, if_pos (hS v e)]; simp
  ·rw [if_neg e] at h; exact absurd rfl h
 | succ k ih =>
  intro v h
  have r' := dst_range (E := E') (S := S') k v
  by_cases e : dst E S (k + 1) v = (k : Int) + 1
  ·obtain ⟨e1, u, he, hu⟩ := dst_succ.1 e
   obtain ⟨i1, i2⟩ := ih u (by rw [hu]; omega)
   have ru := dst_range (E := E') (S := S') k u
   by_cases hv : dst E' S' k v = -1
   ·by_cases hk : dst E' S' k u = (k : Int)
    ·rw [show dst E' S' (k + 1) v = (k : Int) + 1 from dst_succ.2 ⟨hv, u, hE _ he, hk⟩, e]; omega
    ·obtain ⟨j, hj⟩ : ∃ j : Nat, dst E' S' k u = (j : Int) := ⟨(dst E' S' k u).toNat, by omega⟩
     exact absurd hv (dst_from hj (by omega) (hE _ he))
   ·rw [dst_keep hv 1, e]; exact ⟨hv, by omega⟩
  ·have e0 : dst E S (k + 1) v = dst E S k v := by rw [dst_step, if_neg e]
   rw [e0] at h ⊢
   obtain ⟨i1, i2⟩ := ih v h
   rw [dst_keep i1 1]; exact ⟨i1, i2⟩
end Go.TF.Dist
