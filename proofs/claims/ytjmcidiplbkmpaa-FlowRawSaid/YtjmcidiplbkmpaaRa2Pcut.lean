import Derived.Test.YtjmcidiplbkmpaaRa2Paug
namespace Go.TF.Mf
variable {A : List Arc}
theorem out_arc (v : Int) : ∀ {A : List Arc} {f : List Int}, f.length = A.length → (∀ (i : Nat) (h : i < f.length), 0 ≤ f[i]) → 1 ≤ sur A f v → ∃ i, i < A.length ∧ (arc A i).fr = v ∧ 1 ≤ f.getD i 0 := by
 intro A; induction A with
 | nil => intro f _ _ h; simp [sur, sm] at h
 | cons a A ih =>
  intro f hl h0 h; cases f with
  | nil => cases hl
  | cons x f =>
   have x0 := h0 0 (by simp); simp only [List.getElem_cons_zero] at x0
   by_cases e : a.fr = v ∧ 1 ≤ x
   ·exact ⟨0, by simp, by simpa [arc] using e.1, by simpa using e.2⟩
   ·have : (b2 (a.fr = v) - b2 (a.to = v)) * x ≤ 0 := by
     by_cases e1 : a.fr = v
     ·have : x = 0 := by have : ¬ 1 ≤ x := fun h => e ⟨e1, h⟩
                         omega
      subst this; simp
     ·by_cases e2 : a.to = v <;> simp [b2, e1, e2] <;> omega
    unfold sur at h; rw [sm_cons] at h
    obtain ⟨i, h1, h2, h3⟩ := ih (f := f) (by simpa using hl) (fun i hi => by have := h0 (i + 1) (by simpa using hi); simpa using this) (by unfold sur; omega)
    exact ⟨i + 1, by simpa using h1, by simpa [arc] using h2, by simpa using h3⟩
theorem capS_nonneg (hc : ∀ a ∈ A, 0 ≤ a.cap) (S : Int → Bool) : 0 ≤ capS A S := by
 unfold capS; induction A with
 | nil => simp
 | cons a A ih =>
  have := ih (fun b hb => hc b (by simp [hb])); have ha := hc a (by simp)
  simp only [List.map_cons, List.sum_cons]
  have : 0 ≤ b2 (S a.fr = true ∧ S a.to = false) * a.cap := Int.mul_nonneg (by unfold b2; split <;> simp) ha
  omega
theorem submod (hc : ∀ a ∈ A, 0 ≤ a.cap) (S T : Int → Bool) : capS A (fun v => S v || T v) + capS A (fun v => S v && T v) ≤ capS A S + capS A T := by
 unfold capS; induction A with
 | nil => simp
 | cons a A ih =>
  have ih := ih (fun b hb => hc b (by simp [hb])); have ha := hc a (by simp)
  simp only [List.map_cons, List.sum_cons] at ih ⊢
  have : b2 ((S a.fr || T a.fr) = true ∧ (S a.to || T a.to) = false) * a.cap + b2 ((S a.fr && T a.fr) = true ∧ (S a.to && T a.to) = false) * a.cap ≤ b2 (S a.fr = true ∧ S a.to = false) * a.cap + b2 (T a.fr = true ∧ T a.to = false) * a.cap := by
   cases S a.fr <;> cases S a.to <;> cases T a.fr <;> cases T a.to <;> simp [b2] <;> omega
  omega
theorem capS_congr (A : List Arc) {S T : Int → Bool} (h : ∀ a ∈ A, S a.fr = T a.fr ∧ S a.to = T a.to) : capS A S = capS A T := by
 unfold capS; congr 1; apply List.map_congr_left; intro a ha; rw [(h a ha).1, (h a ha).2]
theorem capS_append (A B : List Arc) (S : Int → Bool) : capS (A ++ B) S = capS A S + capS B S := by simp [capS]
theorem capS_perm {A B : List Arc} (h : A.Perm B) (S : Int → Bool) : capS A S = capS B S := by
 unfold capS
 induction h with
 | nil => rfl
 | cons a _ ih => simp only [List.map_cons, List.sum_cons, ih]
 | swap a b l => simp only [List.map_cons, List.sum_cons]; omega
 | trans _ _ h1 h2 => rw [h1, h2]
structure Least (A : List Arc) (v : Int) : Prop where
 is : ∃ S : Int → Bool, S 0 = true ∧ S 1 = false ∧ capS A S = v
 le : ∀ S : Int → Bool, S 0 = true → S 1 = false → v ≤ capS A S
theorem Least.uniq {v w : Int} (h : Least A v) (h' : Least A w) : v = w := by
 obtain ⟨S, s0, s1, e⟩ := h.is; obtain ⟨T, t0, t1, e'⟩ := h'.is
 have a := h.le T t0 t1; have b := h'.le S s0 s1; omega
theorem least_of {n : Nat} (hN : Net n A) {f : List Int} (hf : Flow n A f) (S : Int → Bool) (h0 : S 0 = true) (h1 : S 1 = false) (hc : Closed A f S) : Least A (val A f) :=
 ⟨⟨S, h0, h1, (val_closed hN hf S h0 h1 hc).symm⟩, fun T t0 t1 => val_le hN hf T t0 t1⟩
theorem closed_least {n : Nat} (hN : Net n A) {f : List Int} (hf : Flow n A f) (S : Int → Bool) (h0 : S 0 = true) (h1 : S 1 = false) (e : capS A S = val A f) : Closed A f S :=
 closed_of S hf.len hf.lo hf.hi (by rw [← val_side hN hf S h0 h1, e])
theorem Least.mono {B : List Arc} {v w : Int} (hA : Least A v) (hB : Least B w) (h : ∀ S : Int → Bool, S 0 = true → S 1 = false → capS A S ≤ capS B S) : v ≤ w := by
 obtain ⟨T, t0, t1, e⟩ := hB.is
 have := hA.le T t0 t1; have := h T t0 t1; omega
theorem Least.more {B : List Arc} {v w c : Int} (hA : Least A v) (hB : Least B w) (h : ∀ S : Int → Bool, S 0 = true → S 1 = false → capS B S ≤ capS A S + c) : w ≤ v + c := by
 obtain ⟨T, t0, t1, e⟩ := hA.is
 have := hB.le T t0 t1; have := h T t0 t1; omega
theorem Least.times {B : List Arc} {v w c : Int} (hc : 0 < c) (hA : Least A v) (hB : Least B w) (h : ∀ S : Int → Bool, S 0 = true → S 1 = false → capS B S = c * capS A S) : w = c * v := by
 obtain ⟨S, s0, s1, e⟩ := hA.is; obtain ⟨T, t0, t1, e'⟩ := hB.is
 have a := hB.le S s0 s1; rw [h S s0 s1, e] at a
 have b := hA.le T t0 t1
 rw [h T t0 t1] at e'; rw [← e']
 have : c * v ≤ c * capS A T := Int.mul_le_mul_of_nonneg_left b (by omega)
 omega
theorem capS_set {i : Nat} (hi : i < A.length) (c : Int) (hc : 0 ≤ c) (S : Int → Bool) : capS A S ≤ capS (A.set i ⟨(arc A i).fr, (arc A i).to, (arc A i).cap + c⟩) S ∧ capS (A.set i ⟨(arc A i).fr, (arc A i).to, (arc A i).cap + c⟩) S ≤ capS A S + c := by
 induction A generalizing i with
 | nil => cases hi
 | cons a A ih =>
  cases i with
  | zero =>
   simp only [List.set_cons_zero, capS, List.map_cons, List.sum_cons, arc, List.getD_cons_zero]
   by_cases h : S a.fr = true ∧ S a.to = false
   ·simp only [b2, if_pos h]; omega
   ·simp only [b2, if_neg h]; omega
  | succ i =>
   have := ih (i := i) (by simpa using hi)
   simp only [List.set_cons_succ, capS, List.map_cons, List.sum_cons, arc, List.getD_cons_succ] at this ⊢
   omega
end Go.TF.Mf
