import Derived.Test.YtjmcidiplbkmpaaRa2Pmaxf
namespace Go.TF.Mf
abbrev Step := Nat × Bool
def arc (A : List Arc) (i : Nat) : Arc := A.getD i ⟨0, 0, 0⟩
def stTo (A : List Arc) (s : Step) : Int := if s.2 then (arc A s.1).fr else (arc A s.1).to
def stFr (A : List Arc) (s : Step) : Int := if s.2 then (arc A s.1).to else (arc A s.1).fr
def room (A : List Arc) (f : List Int) (s : Step) : Int := if s.2 then f.getD s.1 0 else (arc A s.1).cap - f.getD s.1 0
def IsWay (A : List Arc) : Int → List Step → Int → Prop
 | s, [], t => s = t
 | s, st :: l, t => st.1 < A.length ∧ stTo A st = t ∧ IsWay A s l (stFr A st)
def push1 (f : List Int) (x : Int) (s : Step) : List Int := f.set s.1 (f.getD s.1 0 + if s.2 then -x else x)
def push (f : List Int) (x : Int) (l : List Step) : List Int := l.foldl (fun g s => push1 g x s) f
variable {A : List Arc}
theorem push1_len (f : List Int) (x : Int) (s : Step) : (push1 f x s).length = f.length := by simp [push1]
theorem push_len (x : Int) : ∀ (l : List Step) (f : List Int), (push f x l).length = f.length := by
 intro l; induction l with
 | nil => intro f; rfl
 | cons s l ih => intro f; rw [show push f x (s :: l) = push (push1 f x s) x l from rfl, ih, push1_len]
theorem sur_push1 (f : List Int) (x v : Int) (s : Step) (h : s.1 < A.length) (h' : f.length = A.length) : sur A (push1 f x s) v = sur A f v + (b2 (stFr A s = v) - b2 (stTo A s = v)) * x := by
 have := sur_set A f v (if s.2 then -x else x) s.1 h (by omega)
 have e : f.getD s.1 0 = f[s.1]'(by omega) := by rw [List.getD_eq_getElem?_getD, List.getElem?_eq_getElem (by omega)]; rfl
 have e2 : arc A s.1 = A[s.1] := by unfold arc; rw [List.getD_eq_getElem?_getD, List.getElem?_eq_getElem h]; rfl
 rw [push1, e, this]
 cases hb : s.2 <;> simp [stFr, stTo, hb, e2, Int.sub_mul, Int.mul_neg] <;> omega
theorem sur_push (x v : Int) : ∀ (l : List Step) (f : List Int) (s t : Int), f.length = A.length → IsWay A s l t → sur A (push f x l) v = sur A f v + (b2 (s = v) - b2 (t = v)) * x := by
 intro l; induction l with
 | nil => rintro f s t h rfl; simp [push]
 | cons a l ih =>
  rintro f s t h ⟨h1, rfl, h2⟩
  rw [show push f x (a :: l) = push (push1 f x a) x l from rfl, ih _ _ _ (by rw [push1_len, h]) h2, sur_push1 f x v a h1 h]
  simp only [Int.sub_mul]; omega
theorem push1_get (f : List Int) (x : Int) (s : Step) (i : Nat) (h : s.1 < f.length) : (push1 f x s).getD i 0 = if i = s.1 then f.getD i 0 + (if s.2 then -x else x) else f.getD i 0 := by
 unfold push1
 by_cases e : i = s.1
 ·subst e; rw [if_pos rfl]; simp [List.getD_eq_getElem?_getD, h]
 ·rw [if_neg e]; simp [List.getD_eq_getElem?_getD, List.getElem?_set_ne (fun h => e h.symm)]
theorem push_get (x : Int) (i : Nat) : ∀ (l : List Step) (f : List Int), (∀ s ∈ l, s.1 < f.length) → (∀ s ∈ l, s.1 ≠ i) → (push f x l).getD i 0 = f.getD i 0 := by
 intro l; induction l with
 | nil => intro f _ _; rfl
 | cons a l ih =>
  intro f h h'
  rw [show push f x (a :: l) = push (push1 f x a) x l from rfl, ih _ (fun s hs => by rw [push1_len]; exact h s (by simp [hs])) (fun s hs => h' s (by simp [hs])), push1_get f x a i (h a (by simp)), if_neg (fun e => h' a (by simp) e.symm)]
theorem push_get' (x : Int) : ∀ (l : List Step) (f : List Int), (∀ s ∈ l, s.1 < f.length) → (l.map (·.1)).Nodup → ∀ s ∈ l, (push f x l).getD s.1 0 = f.getD s.1 0 + (if s.2 then -x else x) := by
 intro l; induction l with
 | nil => intro f _ _ s hs; cases hs
 | cons a l ih =>
  intro f h hn s hs
  simp only [List.map_cons, List.nodup_cons] at hn
  rw [show push f x (a :: l) = push (push1 f x a) x l from rfl]
  rcases List.mem_cons.1 hs with rfl | hs
  ·rw [push_get x s.1 l _ (fun s hs => by rw [push1_len]; exact h s (by simp [hs])) (fun b hb e => hn.1 (List.mem_map.2 ⟨b, hb, e⟩)), push1_get f x s s.1 (h s (by simp)), if_pos rfl]
  ·rw [ih _ (fun s hs => by rw [push1_len]; exact h s (by simp [hs])) hn.2 s hs, push1_get f x a s.1 (h a (by simp)), if_neg (fun e => hn.1 (List.mem_map.2 ⟨s, hs, e⟩))]
theorem getD_getElem {α : Type} (l : List α) (d : α) (i : Nat) (h : i < l.length) : l[i] = l.getD i d := by
 rw [List.getD_eq_getElem?_getD, List.getElem?_eq_getElem h]; rfl
theorem push_flow {n : Nat} {f : List Int} (hf : Flow n A f) (x : Int) (hx : 0 ≤ x) (l : List Step) (hn : (l.map (·.1)).Nodup) (hw : IsWay A 0 l 1) (hr : ∀ s ∈ l, s.1 < A.length ∧ x ≤ room A f s) : Flow n A (push f x l) ∧ val A (push f x l) = val A f + x := by
 have hl : ∀ s ∈ l, s.1 < f.length := fun s hs => by rw [hf.len]; exact (hr s hs).1
 have key : ∀ i, i < f.length → 0 ≤ (push f x l).getD i 0 ∧ (push f x l).getD i 0 ≤ (arc A i).cap := by
  intro i hi
  have l0 := hf.lo i hi; have h0 := hf.hi i hi (by rw [← hf.len]; exact hi)
  rw [getD_getElem f 0 i hi] at l0 h0
  rw [getD_getElem A ⟨0, 0, 0⟩ i (by rw [← hf.len]; exact hi)] at h0
  by_cases e : ∃ s ∈ l, s.1 = i
  ·obtain ⟨s, hs, rfl⟩ := e
   rw [push_get' x l f hl hn s hs]
   have := (hr s hs).2
   unfold room at this; unfold arc at this ⊢
   cases hb : s.2 <;> simp [hb] at this ⊢ <;> simp at l0 h0 <;> omega
  ·rw [push_get x i l f hl (fun s hs e' => e ⟨s, hs, e'⟩)]
   exact ⟨l0, h0⟩
 refine ⟨⟨by rw [push_len, hf.len], fun i hi => ?_, fun i hi h' => ?_, fun v h0 h1 => ?_⟩, ?_⟩
 ·rw [push_len] at hi; rw [getD_getElem _ 0]; exact (key i hi).1
 ·rw [push_len] at hi; rw [getD_getElem _ 0, getD_getElem A ⟨0, 0, 0⟩ i h']; exact (key i hi).2
 ·rw [sur_push x v l f 0 1 hf.len hw, hf.zero v h0 h1]; simp [b2, h0.symm, h1.symm]
 ·unfold val; rw [sur_push x 0 l f 0 1 hf.len hw]; simp [b2]
def Disc (A : List Arc) (f : List Int) : List (Int × Step) → Prop
 | [] => True
 | (v, s) :: V => v ≠ 0 ∧ v ∉ V.map (·.1) ∧ s.1 < A.length ∧ stTo A s = v ∧ (stFr A s = 0 ∨ stFr A s ∈ V.map (·.1)) ∧ 0 < room A f s ∧ Disc A f V
theorem disc_mem {f : List Int} : ∀ {V : List (Int × Step)}, Disc A f V → ∀ p ∈ V, p.1 ≠ 0 ∧ p.2.1 < A.length ∧ stTo A p.2 = p.1 ∧ (stFr A p.2 = 0 ∨ stFr A p.2 ∈ V.map (·.1)) ∧ 0 < room A f p.2 := by
 intro V; induction V with
 | nil => intro _ p hp; cases hp
 | cons q V ih =>
  rintro ⟨h1, h2, h3, h4, h5, h6, h7⟩ p hp
  rcases List.mem_cons.1 hp with rfl | hp
  ·refine ⟨h1, h3, h4, ?_, h6⟩
   rcases h5 with h | h
   ·exact .inl h
   ·exact .inr (by simp at h ⊢; exact .inr h)
  ·obtain ⟨a, b, c, d, e⟩ := ih h7 p hp
   refine ⟨a, b, c, ?_, e⟩
   rcases d with h | h
   ·exact .inl h
   ·exact .inr (by simp at h ⊢; exact .inr h)
theorem disc_nodup {f : List Int} : ∀ {V : List (Int × Step)}, Disc A f V → (V.map (·.1)).Nodup ∧ (V.map (·.2.1)).Nodup := by
 intro V; induction V with
 | nil => intro _; simp
 | cons q V ih =>
  obtain ⟨v, s⟩ := q
  rintro ⟨h1, h2, h3, h4, h5, h6, h7⟩
  obtain ⟨i1, i2⟩ := ih h7
  refine ⟨by simp only [List.map_cons, List.nodup_cons]; exact ⟨h2, i1⟩, ?_⟩
  simp only [List.map_cons, List.nodup_cons]
  refine ⟨fun hm => ?_, i2⟩
  obtain ⟨⟨w, t⟩, hq, e⟩ := List.mem_map.1 hm
  obtain ⟨a, b, c, d, _⟩ := disc_mem h7 _ hq
  simp only at e a b c d
  have hv : v ∈ V.map (·.1) := by
   by_cases hb : t.2 = s.2
   ·have : t = s := Prod.ext e hb
    subst this; rw [← h4, c]; exact List.mem_map_of_mem (f := (·.1)) hq
   ·have : stFr A t = stTo A s := by
     unfold stFr stTo; rw [e]; cases h : t.2 <;> cases h' : s.2 <;> simp [h, h'] at hb ⊢
    rw [h4] at this
    rcases d with h | h
    ·exact absurd (this ▸ h) h1
    ·rw [this] at h; exact h
  exact h2 hv
def pathOf (A : List Arc) : List (Int × Step) → Int → List Step
 | [], _ => []
 | (v, s) :: V, t => if t = v then s :: pathOf A V (stFr A s) else pathOf A V t
theorem pathOf_sub (A : List Arc) : ∀ (V : List (Int × Step)) (t : Int), (pathOf A V t).Sublist (V.map (·.2)) := by
 intro V; induction V with
 | nil => intro t; exact .slnil
 | cons q V ih =>
  obtain ⟨v, s⟩ := q
  intro t; unfold pathOf; split
  ·exact .cons_cons _ (ih _)
  ·exact .cons _ (ih _)
theorem pathOf_zero {f : List Int} : ∀ {V : List (Int × Step)}, Disc A f V → pathOf A V 0 = [] := by
 intro V; induction V with
 | nil => intro _; rfl
 | cons q V ih =>
  obtain ⟨v, s⟩ := q
  rintro ⟨h1, h2, h3, h4, h5, h6, h7⟩
  unfold pathOf; rw [if_neg (fun e => h1 e.symm), ih h7]
theorem pathOf_way {f : List Int} : ∀ {V : List (Int × Step)}, Disc A f V → ∀ t, t = 0 ∨ t ∈ V.map (·.1) → IsWay A 0 (pathOf A V t) t := by
 intro V; induction V with
 | nil => intro _ t h; rcases h with rfl | h; rfl; cases h
 | cons q V ih =>
  obtain ⟨v, s⟩ := q
  rintro ⟨h1, h2, h3, h4, h5, h6, h7⟩ t h
  unfold pathOf; split
  ·subst t; exact ⟨h3, h4, ih h7 _ h5⟩
  ·rename_i hne
   exact ih h7 t (by rcases h with h | h; exact .inl h; simp [hne] at h; exact .inr (by simpa using h))
theorem disc_push {n : Nat} {f : List Int} (hf : Flow n A f) {V : List (Int × Step)} (hd : Disc A f V) (h1 : 1 ∈ V.map (·.1)) (x : Int) (hx : 0 ≤ x) (hr : ∀ s ∈ pathOf A V 1, x ≤ room A f s) : Flow n A (push f x (pathOf A V 1)) ∧ val A (push f x (pathOf A V 1)) = val A f + x := by
 refine push_flow hf x hx _ ?_ (pathOf_way hd 1 (.inr h1)) fun s hs => ⟨?_, hr s hs⟩
 ·have := (pathOf_sub A V 1).map (·.1)
  rw [List.map_map] at this
  exact this.nodup (disc_nodup hd).2
 ·obtain ⟨p, hp, rfl⟩ := List.mem_map.1 ((pathOf_sub A V 1).subset hs)
  exact (disc_mem hd p hp).2.1
theorem path_room {f : List Int} {V : List (Int × Step)} (hd : Disc A f V) (t : Int) : ∀ s ∈ pathOf A V t, s.1 < A.length ∧ 0 < room A f s := by
 intro s hs
 obtain ⟨p, hp, rfl⟩ := List.mem_map.1 ((pathOf_sub A V t).subset hs)
 have := disc_mem hd p hp; exact ⟨this.2.1, this.2.2.2.2⟩
theorem disc_closed {n : Nat} {f : List Int} (hf : Flow n A f) {V : List (Int × Step)} (hc : ∀ s : Step, s.1 < A.length → (stFr A s = 0 ∨ stFr A s ∈ V.map (·.1)) → 0 < room A f s → stTo A s = 0 ∨ stTo A s ∈ V.map (·.1)) : Closed A f fun v => decide (v = 0 ∨ v ∈ V.map (·.1)) := by
 intro i hi hi'
 have hl := hf.lo i hi'; have hh := hf.hi i hi' hi
 have e1 : arc A i = A[i] := (getD_getElem A _ i hi).symm
 have e2 := getD_getElem f 0 i hi'
 constructor
 ·intro p q
  rw [decide_eq_true_iff] at p; rw [decide_eq_false_iff_not] at q
  have := hc (i, false) hi (by simpa [stFr, e1] using p)
  simp only [room, stTo, e1, Bool.false_eq_true, if_false, ← e2] at this
  by_cases h : f[i] = A[i].cap
  ·exact h
  ·exact absurd (this (by omega)) q
 ·intro p q
  rw [decide_eq_true_iff] at p; rw [decide_eq_false_iff_not] at q
  have := hc (i, true) hi (by simpa [stFr, e1] using p)
  simp only [room, stTo, e1, if_true, ← e2] at this
  by_cases h : f[i] = 0
  ·exact h
  ·exact absurd (this (by omega)) q
theorem disc_in {n : Nat} {f : List Int} (hf : Flow n A f) {S : Int → Bool} (h0 : S 0 = true) (hc : Closed A f S) : ∀ {V : List (Int × Step)}, Disc A f V → ∀ v ∈ V.map (·.1), S v = true := by
 intro V; induction V with
 | nil => intro _ v hv; cases hv
 | cons q V ih =>
  obtain ⟨w, s⟩ := q
  rintro ⟨h1, h2, h3, h4, h5, h6, h7⟩ v hv
  simp only [List.map_cons, List.mem_cons] at hv
  rcases hv with rfl | hv
  ·have hp : S (stFr A s) = true := by rcases h5 with h | h; rw [h]; exact h0; exact ih h7 _ h
   have hi' : s.1 < f.length := by rw [hf.len]; exact h3
   have e1 : arc A s.1 = A[s.1] := (getD_getElem A _ s.1 h3).symm
   have e2 := getD_getElem f 0 s.1 hi'
   obtain ⟨c1, c2⟩ := hc s.1 h3 hi'
   subst h4
   cases hb : s.2 <;> simp only [stFr, stTo, room, hb, e1, ← e2, Bool.false_eq_true, if_false, if_true] at hp h6 ⊢
   ·cases ht : S A[s.1].to
    ·have := c1 hp ht; omega
    ·rfl
   ·cases ht : S A[s.1].fr
    ·have := c2 hp ht; omega
    ·rfl
  ·exact ih h7 v hv
end Go.TF.Mf
