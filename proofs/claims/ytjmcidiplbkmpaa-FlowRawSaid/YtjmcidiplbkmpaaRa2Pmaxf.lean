namespace Go.TF.Mf
structure Arc where
 fr : Int
 to : Int
 cap : Int
def sm (A : List Arc) (f : List Int) (w : Arc → Int) : Int := ((A.zip f).map fun p => w p.1 * p.2).sum
def b2 (p : Prop) [Decidable p] : Int := if p then 1 else 0
def sur (A : List Arc) (f : List Int) (v : Int) : Int := sm A f fun a => b2 (a.fr = v) - b2 (a.to = v)
theorem sm_nil (f : List Int) (w : Arc → Int) : sm [] f w = 0 := rfl
theorem sm_nil' (A : List Arc) (w : Arc → Int) : sm A [] w = 0 := by cases A <;> rfl
theorem sm_cons (a : Arc) (A : List Arc) (x : Int) (f : List Int) (w : Arc → Int) : sm (a :: A) (x :: f) w = w a * x + sm A f w := by simp [sm]
theorem sm_congr {A : List Arc} {w w' : Arc → Int} (h : ∀ a ∈ A, w a = w' a) : ∀ f, sm A f w = sm A f w' := by
 induction A with
 | nil => intro f; rfl
 | cons a A ih =>
  intro f; cases f with
  | nil => rfl
  | cons x f => rw [sm_cons, sm_cons, h a (by simp), ih (fun b hb => h b (by simp [hb]))]
theorem sm_add (A : List Arc) (w w' : Arc → Int) : ∀ f, sm A f (fun a => w a + w' a) = sm A f w + sm A f w' := by
 induction A with
 | nil => intro f; rfl
 | cons a A ih =>
  intro f; cases f with
  | nil => rfl
  | cons x f => rw [sm_cons, sm_cons, sm_cons, ih]; simp only [Int.add_mul]; omega
theorem sm_mul (A : List Arc) (c : Int) (w : Arc → Int) : ∀ f, sm A f (fun a => c * w a) = c * sm A f w := by
 induction A with
 | nil => intro f; simp [sm]
 | cons a A ih =>
  intro f; cases f with
  | nil => simp [sm]
  | cons x f => rw [sm_cons, sm_cons, ih, Int.mul_add, Int.mul_assoc]
theorem sm_zero (A : List Arc) : ∀ f, sm A f (fun _ => 0) = 0 := by
 induction A with
 | nil => intro f; rfl
 | cons a A ih =>
  intro f; cases f with
  | nil => rfl
  | cons x f => rw [sm_cons, ih]; simp
theorem sm_set (A : List Arc) (w : Arc → Int) (y : Int) : ∀ (f : List Int) (i : Nat) (h : i < A.length) (h' : i < f.length), sm A (f.set i (f[i] + y)) w = sm A f w + w A[i] * y := by
 induction A with
 | nil => intro f i h; cases h
 | cons a A ih =>
  intro f i h h'; cases f with
  | nil => cases h'
  | cons x f => cases i with
   | zero => simp only [List.set_cons_zero, List.getElem_cons_zero, sm_cons, Int.mul_add]; omega
   | succ i => simp only [List.set_cons_succ, List.getElem_cons_succ, sm_cons]; rw [ih f i (by simpa using h) (by simpa using h')]; omega
theorem sur_set (A : List Arc) (f : List Int) (v y : Int) (i : Nat) (h : i < A.length) (h' : i < f.length) : sur A (f.set i (f[i] + y)) v = sur A f v + (b2 (A[i].fr = v) - b2 (A[i].to = v)) * y := sm_set A _ y f i h h'
theorem sum_range_delta (φ : Int → Int) (u : Int) : ∀ n : Nat, ((List.range n).map fun (v : Nat) => φ (v : Int) * b2 (u = (v : Int))).sum = if 0 ≤ u ∧ u < n then φ u else 0 := by
 intro n; induction n with
 | zero => simp; omega
 | succ n ih =>
  rw [List.range_succ, List.map_append, List.sum_append, ih]
  simp only [List.map_cons, List.map_nil, List.sum_cons, List.sum_nil, b2]
  by_cases h : u = (n : Int)
  ·subst h; rw [if_neg (by omega), if_pos rfl, if_pos (by omega)]; simp
  ·rw [if_neg h]
   by_cases h' : 0 ≤ u ∧ u < n
   ·rw [if_pos h', if_pos (by omega)]; simp
   ·rw [if_neg h', if_neg (by omega)]; simp
theorem sum_map_add {α : Type} (l : List α) (g h : α → Int) : (l.map fun x => g x + h x).sum = (l.map g).sum + (l.map h).sum := by
 induction l with
 | nil => rfl
 | cons a l ih => simp only [List.map_cons, List.sum_cons, ih]; omega
theorem sum_map_zero {α : Type} (l : List α) : (l.map fun _ => (0 : Int)).sum = 0 := by
 induction l with
 | nil => rfl
 | cons a l ih => simp only [List.map_cons, List.sum_cons, ih]; rfl
theorem sum_map_congr {α : Type} (l : List α) (g h : α → Int) (e : ∀ x ∈ l, g x = h x) : (l.map g).sum = (l.map h).sum := by rw [List.map_congr_left e]
theorem sum_sur (n : Nat) (φ : Int → Int) (A : List Arc) (hA : ∀ a ∈ A, 0 ≤ a.fr ∧ a.fr < n ∧ 0 ≤ a.to ∧ a.to < n) : ∀ f, ((List.range n).map fun (v : Nat) => φ (v : Int) * sur A f (v : Int)).sum = sm A f fun a => φ a.fr - φ a.to := by
 induction A with
 | nil => intro f; simp [sur, sm_nil, sum_map_zero]
 | cons a A ih =>
  intro f; cases f with
  | nil => simp [sur, sm_nil', sum_map_zero]
  | cons x f =>
   have ha := hA a (by simp)
   rw [sm_cons, ← ih (fun b hb => hA b (by simp [hb])) f]
   have e : (fun (v : Nat) => φ (v : Int) * sur (a :: A) (x :: f) (v : Int)) = fun (v : Nat) => (x * (φ (v : Int) * b2 (a.fr = (v : Int))) + (-x) * (φ (v : Int) * b2 (a.to = (v : Int)))) + φ (v : Int) * sur A f (v : Int) := by
    funext v
    simp only [sur, sm_cons, Int.mul_add, Int.sub_mul, Int.mul_sub, Int.neg_mul]
    rw [Int.mul_comm x (φ _ * _), Int.mul_comm x (φ _ * _), Int.mul_assoc, Int.mul_assoc]; omega
   rw [e, sum_map_add, sum_map_add]
   have hm : ∀ (c : Int) (g : Nat → Int) (l : List Nat), (l.map fun v => c * g v).sum = c * (l.map g).sum := by
    intro c g l; induction l with
    | nil => simp
    | cons b l ih => simp only [List.map_cons, List.sum_cons, ih, Int.mul_add]
   rw [hm, hm, sum_range_delta, sum_range_delta, if_pos ⟨ha.1, ha.2.1⟩, if_pos ⟨ha.2.2.1, ha.2.2.2⟩, Int.sub_mul, Int.neg_mul, Int.mul_comm x, Int.mul_comm x]; omega
structure Net (n : Nat) (A : List Arc) : Prop where
 two : 2 ≤ n
 rng : ∀ a ∈ A, 0 ≤ a.fr ∧ a.fr < n ∧ 0 ≤ a.to ∧ a.to < n
 src : ∀ a ∈ A, a.to ≠ 0
 snk : ∀ a ∈ A, a.fr ≠ 1
 cap : ∀ a ∈ A, 0 ≤ a.cap
structure Flow (n : Nat) (A : List Arc) (f : List Int) : Prop where
 len : f.length = A.length
 lo : ∀ (i : Nat) (h : i < f.length), 0 ≤ f[i]
 hi : ∀ (i : Nat) (h : i < f.length) (h' : i < A.length), f[i] ≤ A[i].cap
 zero : ∀ v : Int, v ≠ 0 → v ≠ 1 → sur A f v = 0
def val (A : List Arc) (f : List Int) : Int := sur A f 0
def capS (A : List Arc) (S : Int → Bool) : Int := (A.map fun a => b2 (S a.fr = true ∧ S a.to = false) * a.cap).sum
variable {n : Nat} {A : List Arc}
theorem val_side (hN : Net n A) {f : List Int} (hf : Flow n A f) (S : Int → Bool) (h0 : S 0 = true) (h1 : S 1 = false) : val A f = sm A f fun a => b2 (S a.fr = true) - b2 (S a.to = true) := by
 have h := sum_sur n (fun v => b2 (S v = true)) A hN.rng f
 rw [← h]
 have h2 := hN.two
 obtain ⟨m, rfl⟩ : ∃ m, n = m + 2 := ⟨n - 2, by omega⟩
 rw [List.range_succ_eq_map, List.range_succ_eq_map]
 simp only [List.map_cons, List.map_map, List.sum_cons]
 rw [sum_map_congr _ _ (fun _ => 0), sum_map_zero]
 ·simp [b2, h0, h1, val]
 ·intro x _
  simp only [Function.comp]
  rw [hf.zero _ (by omega) (by omega)]; simp
theorem side_le (S : Int → Bool) : ∀ {A : List Arc} {f : List Int}, f.length = A.length → (∀ (i : Nat) (h : i < f.length), 0 ≤ f[i]) → (∀ (i : Nat) (h : i < f.length) (h' : i < A.length), f[i] ≤ A[i].cap) → (sm A f fun a => b2 (S a.fr = true) - b2 (S a.to = true)) ≤ capS A S := by
 intro A; induction A with
 | nil => intro f h _ _; simp [sm, capS]
 | cons a A ih =>
  intro f h hl hh; cases f with
  | nil => cases h
  | cons x f =>
   have i1 := ih (f := f) (by simpa using h) (fun i hi => by have := hl (i + 1) (by simpa using hi); simpa using this) (fun i hi h' => by have := hh (i + 1) (by simpa using hi) (by simpa using h'); simpa using this)
   have x0 := hl 0 (by simp); have xc := hh 0 (by simp) (by simp)
   simp only [List.getElem_cons_zero] at x0 xc
   rw [sm_cons]; simp only [capS, List.map_cons, List.sum_cons] at i1 ⊢
   have : (b2 (S a.fr = true) - b2 (S a.to = true)) * x ≤ b2 (S a.fr = true ∧ S a.to = false) * a.cap := by
    cases hs : S a.fr <;> cases ht : S a.to <;> simp [b2] <;> omega
   omega
theorem val_le (hN : Net n A) {f : List Int} (hf : Flow n A f) (S : Int → Bool) (h0 : S 0 = true) (h1 : S 1 = false) : val A f ≤ capS A S := by
 rw [val_side hN hf S h0 h1]; exact side_le S hf.len hf.lo hf.hi
def Closed (A : List Arc) (f : List Int) (S : Int → Bool) : Prop := ∀ (i : Nat) (h : i < A.length) (h' : i < f.length), (S A[i].fr = true → S A[i].to = false → f[i] = A[i].cap) ∧ (S A[i].to = true → S A[i].fr = false → f[i] = 0)
theorem side_eq (S : Int → Bool) : ∀ {A : List Arc} {f : List Int}, f.length = A.length → Closed A f S → (sm A f fun a => b2 (S a.fr = true) - b2 (S a.to = true)) = capS A S := by
 intro A; induction A with
 | nil => intro f h _; simp [sm, capS]
 | cons a A ih =>
  intro f h hc; cases f with
  | nil => cases h
  | cons x f =>
   have i1 := ih (f := f) (by simpa using h) (fun i hi h' => by have := hc (i + 1) (by simpa using hi) (by simpa using h'); simpa using this)
   have x0 := hc 0 (by simp) (by simp)
   simp only [List.getElem_cons_zero] at x0
   rw [sm_cons]; simp only [capS, List.map_cons, List.sum_cons] at i1 ⊢
   have : (b2 (S a.fr = true) - b2 (S a.to = true)) * x = b2 (S a.fr = true ∧ S a.to = false) * a.cap := by
    cases hs : S a.fr <;> cases ht : S a.to <;> simp [b2]
    ·exact x0.2 ht hs
    ·exact x0.1 hs ht
   omega
theorem val_closed (hN : Net n A) {f : List Int} (hf : Flow n A f) (S : Int → Bool) (h0 : S 0 = true) (h1 : S 1 = false) (hc : Closed A f S) : val A f = capS A S := by
 rw [val_side hN hf S h0 h1]; exact side_eq S hf.len hc
theorem val_eq (hN : Net n A) {f g : List Int} (hf : Flow n A f) (hg : Flow n A g) (S T : Int → Bool) (s0 : S 0 = true) (s1 : S 1 = false) (hs : Closed A f S) (t0 : T 0 = true) (t1 : T 1 = false) (ht : Closed A g T) : val A f = val A g := by
 have a := val_le hN hf T t0 t1; have b := val_le hN hg S s0 s1
 rw [← val_closed hN hg T t0 t1 ht] at a; rw [← val_closed hN hf S s0 s1 hs] at b; omega
theorem closed_of (S : Int → Bool) : ∀ {A : List Arc} {f : List Int}, f.length = A.length → (∀ (i : Nat) (h : i < f.length), 0 ≤ f[i]) → (∀ (i : Nat) (h : i < f.length) (h' : i < A.length), f[i] ≤ A[i].cap) → (sm A f fun a => b2 (S a.fr = true) - b2 (S a.to = true)) = capS A S → Closed A f S := by
 intro A; induction A with
 | nil => intro f _ _ _ _ i h; cases h
 | cons a A ih =>
  intro f h hl hh he; cases f with
  | nil => cases h
  | cons x f =>
   have l' : ∀ (i : Nat) (h : i < f.length), 0 ≤ f[i] := fun i hi => by have := hl (i + 1) (by simpa using hi); simpa using this
   have h'' : ∀ (i : Nat) (h : i < f.length) (h' : i < A.length), f[i] ≤ A[i].cap := fun i hi h' => by have := hh (i + 1) (by simpa using hi) (by simpa using h'); simpa using this
   have i1 := side_le S (A := A) (f := f) (by simpa using h) l' h''
   have x0 := hl 0 (by simp); have xc := hh 0 (by simp) (by simp)
   simp only [List.getElem_cons_zero] at x0 xc
   rw [sm_cons] at he; simp only [capS, List.map_cons, List.sum_cons] at i1 he
   have k1 : (b2 (S a.fr = true) - b2 (S a.to = true)) * x ≤ b2 (S a.fr = true ∧ S a.to = false) * a.cap := by
    cases hs : S a.fr <;> cases ht : S a.to <;> simp [b2] <;> omega
   have k2 : (b2 (S a.fr = true) - b2 (S a.to = true)) * x = b2 (S a.fr = true ∧ S a.to = false) * a.cap := by omega
   intro i hi h'
   cases i with
   | zero =>
    simp only [List.getElem_cons_zero]
    constructor
    ·intro p q; simp [b2, p, q] at k2; exact k2
    ·intro p q; simp [b2, p, q] at k2; exact k2
   | succ i =>
    simp only [List.getElem_cons_succ]
    exact ih (f := f) (by simpa using h) l' h'' (by simp only [capS]; omega) i (by simpa using hi) (by simpa using h')
end Go.TF.Mf
