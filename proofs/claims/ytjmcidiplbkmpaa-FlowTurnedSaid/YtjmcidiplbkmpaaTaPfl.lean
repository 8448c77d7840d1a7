/- Plain laws: FlowLeast, FlowMore, FlowTurned. -/
import Derived.Test.YtjmcidiplbkmpaaTaPfw
set_option linter.unusedVariables false
set_option linter.unusedSimpArgs false
set_option maxRecDepth 100000
namespace Go.TF
open Go Go.Abs
theorem capS_of_mem {N : Nat} {A : List api_Arc} (h : NV N A) {S T : Int → Bool} (e : ∀ v : Int, 0 ≤ v → v < N → S v = T v) : Mf.capS (ar A) S = Mf.capS (ar A) T :=
 Mf.capS_congr _ fun a ha => by have := h.net.rng a ha; exact ⟨e _ this.1 this.2.1, e _ this.2.2.1 this.2.2.2⟩
theorem awake15 : law15_awake 1000000000 = some true := by decide +kernel
theorem Done.least {N : Nat} {A : List api_Arc} {f : List Int} (h : NV N A) (d : Done N A f) : Mf.Least (ar A) (Mf.val (ar A) f) := by
 obtain ⟨S, s0, s1, sc⟩ := d.side h
 exact Mf.least_of h.net d.fl S s0 s1 sc
theorem Done.rng {N : Nat} {A : List api_Arc} {f : List Int} (h : NV N A) (d : Done N A f) : 0 ≤ Mf.val (ar A) f ∧ Mf.val (ar A) f ≤ ((A.length * 1048576 : Nat) : Int) := by
 refine ⟨?_, val_bound h f d.fl⟩
 obtain ⟨S, s0, s1, e⟩ := (d.least h).is
 rw [← e]
 exact Mf.capS_nonneg h.net.cap S
theorem ar_set (A : List api_Arc) (i : Nat) (x : api_Arc) : ar (A.set i x) = (ar A).set i ⟨x.From, x.To, x.Cap⟩ := by simp [ar, List.map_set]
def trnF : List api_Arc → List api_Arc
 | [] => []
 | a :: l => trnF l ++ [a, ⟨0, 1, 0⟩]
def twF (A : List api_Arc) : List api_Arc := A.map fun a => ⟨a.From, a.To, 2 * a.Cap⟩
theorem trnF_len : ∀ A : List api_Arc, (trnF A).length = 2 * A.length
 | [] => rfl
 | a :: A => by rw [trnF, List.length_append, trnF_len A]; simp only [List.length_cons, List.length_nil]; omega
theorem trnF_mem : ∀ (A : List api_Arc) (x : api_Arc), x ∈ trnF A → x ∈ A ∨ x = ⟨0, 1, 0⟩
 | [], x, h => by simp [trnF] at h
 | a :: A, x, h => by
  rw [trnF, List.mem_append] at h
  rcases h with h | h
  ·rcases trnF_mem A x h with z | z
   ·exact .inl (List.mem_cons_of_mem _ z)
   ·exact .inr z
  ·simp only [List.mem_cons, List.not_mem_nil, or_false] at h
   rcases h with rfl | rfl
   ·exact .inl List.mem_cons_self
   ·exact .inr rfl
theorem trnF_cap (S : Int → Bool) : ∀ A : List api_Arc, Mf.capS (ar (trnF A)) S = Mf.capS (ar A) S
 | [] => rfl
 | a :: A => by
  have ih := trnF_cap S A
  have e : ar (trnF (a :: A)) = ar (trnF A) ++ [⟨a.From, a.To, a.Cap⟩, ⟨0, 1, 0⟩] := by simp [trnF, ar]
  rw [e, Mf.capS_append, ih]
  simp [Mf.capS, ar, List.map_cons]; omega
theorem twF_cap (S : Int → Bool) : ∀ A : List api_Arc, Mf.capS (ar (twF A)) S = 2 * Mf.capS (ar A) S
 | [] => rfl
 | a :: A => by
  have ih := twF_cap S A
  have e : ar (twF (a :: A)) = ⟨a.From, a.To, 2 * a.Cap⟩ :: ar (twF A) := by simp [twF, ar]
  have e' : ar (a :: A) = ⟨a.From, a.To, a.Cap⟩ :: ar A := by simp [ar]
  rw [e, e']
  simp only [Mf.capS, List.map_cons, List.sum_cons] at ih ⊢
  rw [ih]
  unfold Mf.b2
  split <;> omega
theorem ft_L2 (N : Nat) (A B : List api_Arc) (h : NM N A) (nvB : NV N B) (hB : ∀ S : Int → Bool, Mf.capS (ar B) S = Mf.capS (ar A) S) (lB : B.length ≤ 30) : ∀ (m i n : Nat), i + m = A.length → m < n →
 law15_FlowTurned.L2 1000000000 (N : Int) A B n (i : Int) (twF (A.take i)) = some true
 | 0, i, n + 1, e, _ => by
  have l15 := h.l15
  have nvT : NV N (twF A) := by
   refine ⟨h.nv.two, h.nv.n130, by rw [twF, List.length_map]; exact h.nv.len, fun x hx => ?_⟩
   obtain ⟨a, ha, rfl⟩ := List.mem_map.1 hx
   have ok := h.nv.ok a ha
   have c5 := h.c5 a ha
   exact ⟨ok.1, ok.2.1, ok.2.2.1, ok.2.2.2.1, ok.2.2.2.2.1, ok.2.2.2.2.2.1, ok.2.2.2.2.2.2.1, by have := ok.2.2.2.2.2.2.2.1; simp only []; omega, by simp only []; omega⟩
  have lT : (twF A).length = A.length := by rw [twF, List.length_map]
  rw [law15_FlowTurned.L2, if_neg (by omega), List.take_of_length_le (by omega)]
  obtain ⟨f, f1, f2⟩ := fMax_eq 1000000000 N A h.nv (by omega) (by omega) _ (val_bound h.nv) (by omega)
  obtain ⟨g, g1, g2⟩ := fMax_eq 1000000000 N B nvB (by omega) (by omega) _ (val_bound nvB) (by omega)
  obtain ⟨t, t1, t2⟩ := fMax_eq 1000000000 N (twF A) nvT (by omega) (by omega) _ (val_bound nvT) (by omega)
  have lf := f2.least h.nv; have lg := g2.least nvB; have lt := t2.least nvT
  have r1 := f2.rng h.nv
  have e1 : Mf.val (ar B) g = Mf.val (ar A) f := by
   have a := Mf.Least.mono lf lg fun S _ _ => by rw [hB S]; exact Int.le_refl _
   have b := Mf.Least.mono lg lf fun S _ _ => by rw [hB S]; exact Int.le_refl _
   omega
  have e2 : Mf.val (ar (twF A)) t = 2 * Mf.val (ar A) f := Mf.Least.times (by omega) lf lt fun S _ _ => twF_cap S A
  rw [f1, bnd2_some, g1, bnd2_some, t1, bnd2_some, fValue_flow 1000000000 N A f h.nv f2.fl (by omega), bnd1_some, awake15, bnd1_some, if_pos rfl, if_pos rfl, if_pos rfl, if_pos rfl, fValue_flow 1000000000 N B g nvB g2.fl (by omega), bnd1_some, if_pos e1, fValue_flow 1000000000 N _ t nvT t2.fl (by omega), bnd1_some, w64 (by omega) (by omega), e2]
  simp
 | m + 1, i, n + 1, e, hn => by
  have l15 := h.l15
  have hi : i < A.length := by omega
  have ok := h.nv.ok _ (List.getElem_mem hi)
  have c5 := h.c5 _ (List.getElem_mem hi)
  have ih := ft_L2 N A B h nvB hB lB m (i + 1) n (by omega) (by omega)
  rw [law15_FlowTurned.L2, if_pos (by omega), idx_pos hi, w64 (n := 2 * A[i].Cap) (by omega) (by omega), chk_pos (by simp only [twF, List.length_map, List.length_take, List.length_cons, List.length_nil]; omega), sc64 i (by omega), ← ih]
  congr 1
  simp only [twF]
  rw [List.take_succ_eq_append_getElem hi, List.map_append]; rfl
theorem ft_L1 (N : Nat) (A : List api_Arc) (h : NM N A) : ∀ (m n : Nat) , m ≤ A.length → m < n → law15_FlowTurned.L1 1000000000 (N : Int) A n ((m : Int) - 1) (trnF (A.drop m)) = some true
 | 0, n + 1, _, _ => by
  have l15 := h.l15
  rw [law15_FlowTurned.L1, if_neg (by omega), List.drop_zero]
  have nvB : NV N (trnF A) := by
   have n2 := h.nv.two; have n130 := h.nv.n130
   refine ⟨h.nv.two, h.nv.n130, by rw [trnF_len]; omega, fun x hx => ?_⟩
   rcases trnF_mem A x hx with z | z
   ·exact h.nv.ok x z
   ·subst z; simp only []; omega
  exact ft_L2 N A (trnF A) h nvB (fun S => trnF_cap S A) (by rw [trnF_len]; omega) A.length 0 1000000000 (by omega) (by omega)
 | m + 1, n + 1, e, hn => by
  have l15 := h.l15
  have hi : m < A.length := by omega
  rw [law15_FlowTurned.L1, if_pos (by omega), show ((m + 1 : Nat) : Int) - 1 = (m : Int) by omega, idx_pos hi, chk_pos (by rw [trnF_len, List.length_drop]; simp only [List.length_cons, List.length_nil]; omega), w64 (by omega) (by omega)]
  have ih := ft_L1 N A h m n (by omega) (by omega)
  rw [List.drop_eq_getElem_cons hi, trnF] at ih
  exact ih
theorem FlowTurned_ex (v0 : List Int) (h0 : Fit (.lst false false (v0.map (.int .i64)))) : ∃ k, law15_FlowTurned k v0 = some true := by
 refine ⟨1000000000, ?_⟩
 unfold law15_FlowTurned
 rw [Light_eq, bnd1_some]
 by_cases h : (v0.length : Int) ≤ 400
 ·rw [if_neg (by simpa using h), Roll_eq, bnd2_some]
  obtain ⟨N, A, q, e, hq, nm⟩ := Network_eq 1000000000 v0 0 (by omega) ⟨by omega, by omega⟩ (by omega)
  have l15 := nm.l15
  rw [e, bnd3_some, w64 (by omega) (by omega)]
  have := ft_L1 N A nm A.length 1000000000 (by omega) (by omega)
  rw [List.drop_length] at this
  exact this
 ·rw [if_pos (by simpa using h), awake15, bnd1_some]
def btF (s : Int) (i : Nat) : Bool := decide (bitsV .and .i64 (Int.fdiv s (2 ^ (min ((IntKind.wrap .u64 (i : Int)).toNat) 64))) 1 = 1)
theorem bits3 : ∀ s : Fin 256, bitsV .and .i64 ((s.val : Nat) : Int) 3 = 1 ↔ btF ((s.val : Nat) : Int) 0 = true ∧ btF ((s.val : Nat) : Int) 1 = false := by decide +kernel
theorem pow8 : ∀ n : Fin 9, IntKind.wrap .i64 (1 * 2 ^ (min ((IntKind.wrap .u64 ((n.val : Nat) : Int)).toNat) 64)) = 2 ^ n.val := by decide +kernel
def ofB (S : Nat → Bool) : Nat → Nat
 | 0 => 0
 | n + 1 => ofB S n + if S n then 2 ^ n else 0
theorem ofB_lt (S : Nat → Bool) : ∀ n, ofB S n < 2 ^ n
 | 0 => by simp [ofB]
 | n + 1 => by have := ofB_lt S n; rw [ofB, Nat.pow_succ]; split <;> omega
theorem bt_ofB : ∀ (t : Fin 256) (i : Fin 8), btF ((t.val : Nat) : Int) i.val = decide (t.val / 2 ^ i.val % 2 = 1) := by decide +kernel
theorem ofB_bit (S : Nat → Bool) : ∀ (n i : Nat), i < n → decide (ofB S n / 2 ^ i % 2 = 1) = S i
 | n + 1, i, h => by
  have lt := ofB_lt S n
  rw [ofB]
  by_cases e : i = n
  ·subst e
   cases S i with
   | true => rw [if_pos rfl, Nat.add_div_right _ (Nat.two_pow_pos i), Nat.div_eq_of_lt lt]; rfl
   | false => rw [if_neg (by simp), Nat.add_zero, Nat.div_eq_of_lt lt]; rfl
  ·rw [← ofB_bit S n i (by omega)]
   split
   ·have : 2 ^ n = 2 ^ i * (2 * 2 ^ (n - i - 1)) := by rw [← Nat.mul_assoc, ← Nat.pow_succ, ← Nat.pow_add]; congr 1; omega
    rw [this, Nat.add_mul_div_left _ _ (Nat.two_pow_pos i), Nat.add_mul_mod_self_left]
   ·rw [Nat.add_zero]
structure Sx (s : Int) (i : Nat) (a : List Int) : Prop where
 rng : ∀ x ∈ a, 0 ≤ x ∧ x < i
 mem : ∀ j : Nat, j < i → ((j : Int) ∈ a ↔ btF s j = true)
 len : a.length ≤ i
def ldB (s : Int) (v : Int) : Bool := btF s v.toNat
end Go.TF
