/- Plain laws: which flows the reference calls right, and their value. -/
import Derived.Test.YtjmcidiplbkmpaaRa2Pcc
set_option linter.unusedVariables false
set_option linter.unusedSimpArgs false
set_option maxRecDepth 100000
namespace Go.TF
open Go Go.Abs
theorem sm_append (w : Mf.Arc → Int) : ∀ (A B : List Mf.Arc) (f g : List Int), A.length = f.length → Mf.sm (A ++ B) (f ++ g) w = Mf.sm A f w + Mf.sm B g w
 | [], B, [], g, _ => by simp [Mf.sm_nil]
 | a :: A, B, x :: f, g, h => by
  rw [List.cons_append, List.cons_append, Mf.sm_cons, Mf.sm_cons, sm_append w A B f g (by simpa using h)]; omega
 | [], B, x :: f, g, h => by simp at h
 | a :: A, B, [], g, h => by simp at h
theorem sur_snoc (A : List api_Arc) (f : List Int) (i : Nat) (h1 : i < A.length) (h2 : i < f.length) (v : Int) :
 Mf.sur (ar (A.take (i + 1))) (f.take (i + 1)) v = Mf.sur (ar (A.take i)) (f.take i) v + (Mf.b2 (A[i].From = v) - Mf.b2 (A[i].To = v)) * f[i] := by
 have e1 : ar (A.take (i + 1)) = ar (A.take i) ++ [⟨A[i].From, A[i].To, A[i].Cap⟩] := by
  unfold ar; rw [List.take_succ_eq_append_getElem h1, List.map_append]; rfl
 rw [e1, List.take_succ_eq_append_getElem h2]
 unfold Mf.sur
 rw [sm_append _ _ _ _ _ (by rw [ar_len, List.length_take, List.length_take]; omega), Mf.sm_cons, Mf.sm_nil, Int.add_zero]
def inB (A : List api_Arc) (f : List Int) : Bool := (A.zip f).all fun p => decide (0 ≤ p.2 ∧ p.2 ≤ p.1.Cap)
def zeroB (N : Nat) (A : List api_Arc) (f : List Int) : Bool := (List.range N).all fun (v : Nat) => decide (v < 2 ∨ Mf.sur (ar A) f (v : Int) = 0)
def flB (N : Int) (A : List api_Arc) (f : List Int) : Bool := chkN N A && (decide (f.length = A.length) && (inB A f && zeroB N.toNat A f))
theorem inB_iff {A : List api_Arc} {f : List Int} (hl : f.length = A.length) : inB A f = true ↔ ∀ (i : Nat) (h1 : i < A.length) (h2 : i < f.length), 0 ≤ f[i] ∧ f[i] ≤ A[i].Cap := by
 unfold inB
 rw [List.all_eq_true]
 constructor
 ·intro h i h1 h2
  have := h (A[i], f[i]) (List.mem_iff_getElem.2 ⟨i, by simp; omega, by simp⟩)
  simpa using this
 ·intro h p hp
  obtain ⟨i, hi, rfl⟩ := List.mem_iff_getElem.1 hp
  simp only [List.length_zip] at hi
  have := h i (by omega) (by omega)
  simpa using this
theorem sur_far {A : List api_Arc} {N : Nat} (h : NV N A) (v : Int) (hv : v < 0 ∨ (N : Int) ≤ v) : ∀ f, Mf.sur (ar A) f v = 0 := by
 intro f
 unfold Mf.sur
 rw [Mf.sm_congr (w' := fun _ => 0) (fun a ha => ?_) f, Mf.sm_zero]
 have := h.net.rng a ha
 unfold Mf.b2
 rw [if_neg (by omega), if_neg (by omega)]; rfl
theorem flB_iff (N : Int) (A : List api_Arc) (f : List Int) : flB N A f = true ↔ ∃ n : Nat, N = n ∧ NV n A ∧ Mf.Flow n (ar A) f := by
 unfold flB
 rw [Bool.and_eq_true, chkN_iff, Bool.and_eq_true, decide_eq_true_eq, Bool.and_eq_true]
 constructor
 ·rintro ⟨⟨n, rfl, nv⟩, hl, h1, h2⟩
  rw [inB_iff hl] at h1
  unfold zeroB at h2
  rw [List.all_eq_true] at h2
  refine ⟨n, rfl, nv, by rw [ar_len, hl], fun i hi => (h1 i (by omega) hi).1, fun i hi h' => ?_, fun v v0 v1 => ?_⟩
  ·have := (h1 i (by omega) hi).2; simpa [ar] using this
  ·by_cases hv : 0 ≤ v ∧ v < n
   ·have := h2 v.toNat (by rw [List.mem_range]; omega)
    rw [decide_eq_true_eq] at this
    rcases this with q | q
    ·omega
    ·rw [show ((v.toNat : Nat) : Int) = v by omega] at q; exact q
   ·exact sur_far nv v (by omega) f
 ·rintro ⟨n, rfl, nv, fl⟩
  have hl := fl.len
  rw [ar_len] at hl
  refine ⟨⟨n, rfl, nv⟩, hl, (inB_iff hl).2 fun i h1 h2 => ⟨fl.lo i h2, by have := fl.hi i h2 (by rw [ar_len]; exact h1); simpa [ar] using this⟩, ?_⟩
  unfold zeroB
  rw [List.all_eq_true]
  intro v hv
  rw [decide_eq_true_eq]
  by_cases z : v < 2
  ·exact .inl z
  ·right; exact fl.zero _ (by omega) (by omega)
theorem sur_bound {A : List api_Arc} {f : List Int} (hA : ∀ a ∈ A, a.Cap ≤ 1048576) (v : Int) : ∀ i : Nat, i ≤ A.length → i ≤ f.length → (∀ (j : Nat) (h1 : j < A.length) (h2 : j < f.length), j < i → 0 ≤ f[j] ∧ f[j] ≤ A[j].Cap) → -((i : Int) * 1048576) ≤ Mf.sur (ar (A.take i)) (f.take i) v ∧ Mf.sur (ar (A.take i)) (f.take i) v ≤ (i : Int) * 1048576 := by
 intro i
 induction i with
 | zero => intro _ _ _; simp [Mf.sur, ar, Mf.sm_nil]
 | succ i ih =>
  intro h1 h2 hr
  have := ih (by omega) (by omega) fun j j1 j2 j3 => hr j j1 j2 (by omega)
  have r := hr i (by omega) (by omega) (by omega)
  have c := hA _ (List.getElem_mem (show i < A.length by omega))
  rw [sur_snoc A f i (by omega) (by omega)]
  unfold Mf.b2
  split <;> split <;> simp <;> omega
theorem rV_L2 (k N : Nat) (g : Int → Int) (hN : N ≤ 1000) : ∀ (m i n : Nat), i + m = N → m < n → ref15_Valid.L2 k (N : Int) (tabG N g) n (i : Int) = some ((List.range N).all fun (v : Nat) => decide (v < i ∨ g (v : Int) = 0))
 | 0, i, n + 1, e, _ => by
  rw [ref15_Valid.L2, if_neg (by omega)]
  congr 1; symm
  rw [List.all_eq_true]; intro v hv
  rw [List.mem_range] at hv
  rw [decide_eq_true_eq]; left; omega
 | m + 1, i, n + 1, e, hn => by
  rw [ref15_Valid.L2, if_pos (by omega), idx_tabG (by omega) (by omega)]
  by_cases z : g (i : Int) = 0
  ·rw [if_neg (by simpa using z), sc64 i (by omega), rV_L2 k N g hN m (i + 1) n (by omega) (by omega)]
   congr 2
   funext v
   refine decide_eq_decide.2 ⟨fun h => ?_, fun h => by rcases h with h | h; exact .inl (by omega); exact .inr h⟩
   rcases h with h | h
   ·by_cases q : v = i
    ·subst q; exact .inr z
    ·exact .inl (by omega)
   ·exact .inr h
  ·rw [if_pos z]
   congr 1; symm
   rw [List.all_eq_false]
   exact ⟨i, by rw [List.mem_range]; omega, by rw [decide_eq_true_eq]; rintro (h | h); omega; exact z h⟩
theorem rV_L1 (k N : Nat) (A : List api_Arc) (f : List Int) (h : NV N A) (hl : f.length = A.length) (hk : N < k) : ∀ (m i n : Nat), i + m = f.length → m < n → (∀ (j : Nat) (h1 : j < A.length) (h2 : j < f.length), j < i → 0 ≤ f[j] ∧ f[j] ≤ A[j].Cap) →
 ref15_Valid.L1 k (N : Int) A f n (i : Int) (tabG N fun v => -Mf.sur (ar (A.take i)) (f.take i) v) = some (inB A f && zeroB N A f)
 | 0, i, n + 1, e, _, hr => by
  have hN := h.n130; have h2 := h.two
  have : i = f.length := by omega
  subst this
  rw [ref15_Valid.L1, if_neg (by omega), List.take_of_length_le (Nat.le_refl _), List.take_of_length_le (by omega)]
  have := rV_L2 k N (fun v => -Mf.sur (ar A) f v) (by omega) (N - 2) 2 k (by omega) (by omega)
  rw [show (2 : Int) = ((2 : Nat) : Int) from rfl, this, (inB_iff hl).2 fun j h1 h2 => hr j h1 h2 h2, Bool.true_and]
  unfold zeroB
  congr 2
  funext v
  exact decide_eq_decide.2 ⟨fun h => by rcases h with h | h; exact .inl h; exact .inr (by omega), fun h => by rcases h with h | h; exact .inl h; exact .inr (by omega)⟩
 | m + 1, i, n + 1, e, hn, hr => by
  have hi : i < f.length := by omega
  have hiA : i < A.length := by omega
  have ok := h.ok _ (List.getElem_mem hiA)
  have hA := h.len
  have bad : (¬ (0 ≤ f[i] ∧ f[i] ≤ A[i].Cap)) → inB A f = false := by
   intro z
   cases q : inB A f with
   | false => rfl
   | true => exact absurd ((inB_iff hl).1 q i hiA hi) z
  rw [ref15_Valid.L1, if_pos (by omega), idx_pos hi]
  by_cases c1 : f[i] < 0
  ·rw [if_pos c1, bad (by omega)]; rfl
  rw [if_neg c1, idx_pos hiA]
  by_cases c2 : A[i].Cap < f[i]
  ·rw [if_pos c2, bad (by omega)]; rfl
  rw [if_neg c2]
  have B := fun v => sur_bound (A := A) (f := f) (fun a ha => (h.ok a ha).2.2.2.2.2.2.2.2) v i (by omega) (by omega) hr
  have b1 := B A[i].From; have b2 := B A[i].To
  rw [chk_pos (by rw [tabG_len]; omega), idx_tabG ok.1 ok.2.1, chk_pos (by rw [tabG_len]; omega), w64 (by omega) (by omega), tabG_set ok.1, chk_pos (by rw [tabG_len]; omega), idx_tabG ok.2.2.1 ok.2.2.2.1, chk_pos (by rw [tabG_len]; omega), if_neg (fun z => ok.2.2.2.2.1 z.symm), sc64 i (by omega), tabG_set ok.2.2.1, w64 (n := -Mf.sur (ar (A.take i)) (f.take i) A[i].To + f[i]) (by omega) (by omega)]
  have ih := rV_L1 k N A f h hl hk m (i + 1) n (by omega) (by omega) (fun j h1 h2 h3 => by
   by_cases z : j = i
   ·subst z; omega
   ·exact hr j h1 h2 (by omega))
  rw [← ih]
  congr 2
  funext v
  rw [sur_snoc A f i hiA hi]
  unfold Mf.b2
  by_cases e1 : v = A[i].To
  ·subst e1
   rw [if_pos rfl, if_neg (fun z => ok.2.2.2.2.1 z), if_pos rfl]; omega
  ·rw [if_neg e1]
   by_cases e2 : v = A[i].From
   ·subst e2
    rw [if_pos rfl, if_pos rfl, if_neg (fun z => e1 z.symm)]; omega
   ·rw [if_neg e2, if_neg (fun z => e2 z.symm), if_neg (fun z => e1 z.symm)]; omega
theorem rValid_eq (k : Nat) (N : Int) (A : List api_Arc) (f : List Int) (hk : 1300 < k) : ref15_Valid k N A f = some (flB N A f) := by
 unfold ref15_Valid flB
 rw [r15Check_eq k N A (by omega), bnd1_some]
 cases h : chkN N A with
 | false => rw [if_pos (by simp)]; rfl
 | true =>
  obtain ⟨n, rfl, nv⟩ := (chkN_iff _ _).1 h
  have := nv.n130; have := nv.len
  rw [if_neg (by simp)]
  by_cases hl : f.length = A.length
  ·rw [if_neg (by omega), decide_eq_true hl, chk_pos (by omega), show ((n : Int)).toNat = n by omega, tabG_rep]
   exact rV_L1 k n A f nv hl (by omega) f.length 0 k (by omega) (by omega) (fun j _ _ h => by omega)
  ·rw [if_pos (by omega), decide_eq_false hl]; rfl
theorem rVal_L1 (k N : Nat) (A : List api_Arc) (f : List Int) (h : NV N A) (hf : Mf.Flow N (ar A) f) : ∀ (m i n : Nat), i + m = f.length → m < n → ref15_Value.L1 k A f n (Mf.sur (ar (A.take i)) (f.take i) 0) (i : Int) = some (Mf.val (ar A) f)
 | 0, i, n + 1, e, _ => by
  have hl := hf.len
  rw [ar_len] at hl
  have : i = f.length := by omega
  subst this
  rw [ref15_Value.L1, if_neg (by omega), List.take_of_length_le (Nat.le_refl _), List.take_of_length_le (by omega)]; rfl
 | m + 1, i, n + 1, e, hn => by
  have hl := hf.len
  rw [ar_len] at hl
  have hA := h.len
  have hi : i < f.length := by omega
  have hiA : i < A.length := by omega
  have fb := FB.of hf
  have ok := h.ok _ (List.getElem_mem hiA)
  have r1 := fb.lo i hi; have r2 := fb.hi i hi hiA
  have B := sur_bound (A := A) (f := f) (fun a ha => (h.ok a ha).2.2.2.2.2.2.2.2) 0 i (by omega) (by omega) (fun j h1 h2 _ => ⟨fb.lo j h2, fb.hi j h2 h1⟩)
  have ih := rVal_L1 k N A f h hf m (i + 1) n (by omega) (by omega)
  rw [sur_snoc A f i hiA hi] at ih
  rw [ref15_Value.L1, if_pos (by omega), idx_pos hiA]
  unfold ref15_Value.J2
  unfold Mf.b2 at ih
  rw [if_neg (show ¬ A[i].To = 0 from ok.2.2.2.2.2.1)] at ih
  by_cases c : A[i].From = 0
  ·rw [if_pos c] at ih
   rw [if_pos c, idx_pos hi, w64 (by omega) (by omega), sc64 i (by omega), ← ih]
   congr 1; omega
  ·rw [if_neg c] at ih
   rw [if_neg c, sc64 i (by omega), ← ih]
   congr 1; omega
theorem rValue_eq (k : Nat) (N : Int) (A : List api_Arc) (f : List Int) (hk : 1300 < k) : ref15_Value k N A f = some (if flB N A f then Mf.val (ar A) f else 0) := by
 unfold ref15_Value
 rw [rValid_eq k N A f hk, bnd1_some]
 cases h : flB N A f with
 | false => rfl
 | true =>
  obtain ⟨n, rfl, nv, fl⟩ := (flB_iff _ _ _).1 h
  have hl := fl.len
  rw [ar_len] at hl
  have := nv.len
  rw [if_neg (by simp)]
  have := rVal_L1 k n A f nv fl f.length 0 k (by omega) (by omega)
  rw [List.take_zero, List.take_zero] at this
  exact this
end Go.TF
