/- Plain laws: FlowLeast, FlowMore, FlowTurned. -/
import Derived.Test.YtjmcidiplbkmpaaRa2Pfw
set_option linter.unusedVariables false
set_option linter.unusedSimpArgs false
set_option maxRecDepth 100000
namespace Go.TF
open Go Go.Abs
theorem capS_of_mem {N : Nat} {A : List api_Arc} (h : NV N A) {S T : Int → Bool} (e : ∀ v : Int, 0 ≤ v → v < N → S v = T v) : Mf.capS (ar A) S = Mf.capS (ar A) T :=
 Mf.capS_congr _ fun a ha => by have := h.net.rng a ha; exact ⟨e _ this.1 this.2.1, e _ this.2.2.1 this.2.2.2⟩
theorem awake15 : law15_awake 1000000000 = some true := by decide +kernel
theorem Done.least {N : Nat} {A : List api_Arc} {f : List Int} (h : NV N A) (d : Done N A f) : Mf.Least (ar A) (Mf.val (ar A) f) := by
 obtain ⟨S, s0, s1, sc⟩ := d.side h
 exact Mf.least_of h.net d.fl S s0 s1 sc
theorem Done.rng {N : Nat} {A : List api_Arc} {f : List Int} (h : NV N A) (d : Done N A f) : 0 ≤ Mf.val (ar A) f ∧ Mf.val (ar A) f ≤ ((A.length * 1048576 : Nat) : Int) := by
 refine ⟨?_, val_bound h f d.fl⟩
 obtain ⟨S, s0, s1, e⟩ := (d.least h).is
 rw [← e]
 exact Mf.capS_nonneg h.net.cap S
theorem ar_set (A : List api_Arc) (i : Nat) (x : api_Arc) : ar (A.set i x) = (ar A).set i ⟨x.From, x.To, x.Cap⟩ := by simp [ar, List.map_set]
def trnF : List api_Arc → List api_Arc
 | [] => []
 | a :: l => trnF l ++ [a, ⟨0, 1, 0⟩]
def twF (A : List api_Arc) : List api_Arc := A.map fun a => ⟨a.From, a.To, 2 * a.Cap⟩
theorem trnF_len : ∀ A : List api_Arc, (trnF A).length = 2 * A.length
 | [] => rfl
 | a :: A => by rw [trnF, List.length_append, trnF_len A]; simp only [List.length_cons, List.length_nil]; omega
theorem trnF_mem : ∀ (A : List api_Arc) (x : api_Arc), x ∈ trnF A → x ∈ A ∨ x = ⟨0, 1, 0⟩
 | [], x, h => by simp [trnF] at h
 | a :: A, x, h => by
  rw [trnF, List.mem_append] at h
  rcases h with h | h
  ·rcases trnF_mem A x h with z | z
   ·exact .inl (List.mem_cons_of_mem _ z)
   ·exact .inr z
  ·simp only [List.mem_cons, List.not_mem_nil, or_false] at h
   rcases h with rfl | rfl
   ·exact .inl List.mem_cons_self
   ·exact .inr rfl
theorem trnF_cap (S : Int → Bool) : ∀ A : List api_Arc, Mf.capS (ar (trnF A)) S = Mf.capS (ar A) S
 | [] => rfl
 | a :: A => by
  have ih := trnF_cap S A
  have e : ar (trnF (a :: A)) = ar (trnF A) ++ [⟨a.From, a.To, a.Cap⟩, ⟨0, 1, 0⟩] := by simp [trnF, ar]
  rw [e, Mf.capS_append, ih]
  simp [Mf.capS, ar, List.map_cons]; omega
theorem twF_cap (S : Int → Bool) : ∀ A : List api_Arc, Mf.capS (ar (twF A)) S = 2 * Mf.capS (ar A) S
 | [] => rfl
 | a :: A => by
  have ih := twF_cap S A
  have e : ar (twF (a :: A)) = ⟨a.From, a.To, 2 * a.Cap⟩ :: ar (twF A) := by simp [twF, ar]
  have e' : ar (a :: A) = ⟨a.From, a.To, a.Cap⟩ :: ar A := by simp [ar]
  rw [e, e']
  simp only [Mf.capS, List.map_cons, List.sum_cons] at ih ⊢
  rw [ih]
  unfold Mf.b2
  split <;> omega
def btF (s : Int) (i : Nat) : Bool := decide (bitsV .and .i64 (Int.fdiv s (2 ^ (min ((IntKind.wrap .u64 (i : Int)).toNat) 64))) 1 = 1)
theorem bits3 : ∀ s : Fin 256, bitsV .and .i64 ((s.val : Nat) : Int) 3 = 1 ↔ btF ((s.val : Nat) : Int) 0 = true ∧ btF ((s.val : Nat) : Int) 1 = false := by decide +kernel
theorem pow8 : ∀ n : Fin 9, IntKind.wrap .i64 (1 * 2 ^ (min ((IntKind.wrap .u64 ((n.val : Nat) : Int)).toNat) 64)) = 2 ^ n.val := by decide +kernel
def ofB (S : Nat → Bool) : Nat → Nat
 | 0 => 0
 | n + 1 => ofB S n + if S n then 2 ^ n else 0
theorem ofB_lt (S : Nat → Bool) : ∀ n, ofB S n < 2 ^ n
 | 0 => by simp [ofB]
 | n + 1 => by have := ofB_lt S n; rw [ofB, Nat.pow_succ]; split <;> omega
theorem bt_ofB : ∀ (t : Fin 256) (i : Fin 8), btF ((t.val : Nat) : Int) i.val = decide (t.val / 2 ^ i.val % 2 = 1) := by decide +kernel
theorem ofB_bit (S : Nat → Bool) : ∀ (n i : Nat), i < n → decide (ofB S n / 2 ^ i % 2 = 1) = S i
 | n + 1, i, h => by
  have lt := ofB_lt S n
  rw [ofB]
  by_cases e : i = n
  ·subst e
   cases S i with
   | true => rw [if_pos rfl, Nat.add_div_right _ (Nat.two_pow_pos i), Nat.div_eq_of_lt lt]; rfl
   | false => rw [if_neg (by simp), Nat.add_zero, Nat.div_eq_of_lt lt]; rfl
  ·rw [← ofB_bit S n i (by omega)]
   split
   ·have : 2 ^ n = 2 ^ i * (2 * 2 ^ (n - i - 1)) := by rw [← Nat.mul_assoc, ← Nat.pow_succ, ← Nat.pow_add]; congr 1; omega
    rw [this, Nat.add_mul_div_left _ _ (Nat.two_pow_pos i), Nat.add_mul_mod_self_left]
   ·rw [Nat.add_zero]
structure Sx (s : Int) (i : Nat) (a : List Int) : Prop where
 rng : ∀ x ∈ a, 0 ≤ x ∧ x < i
 mem : ∀ j : Nat, j < i → ((j : Int) ∈ a ↔ btF s j = true)
 len : a.length ≤ i
def ldB (s : Int) (v : Int) : Bool := btF s v.toNat
end Go.TF
