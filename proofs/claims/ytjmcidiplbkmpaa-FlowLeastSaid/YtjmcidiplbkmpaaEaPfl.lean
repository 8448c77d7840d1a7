/- Plain laws: FlowLeast, FlowMore, FlowTurned. -/
import Derived.Test.YtjmcidiplbkmpaaEaPfw
set_option linter.unusedVariables false
set_option linter.unusedSimpArgs false
set_option maxRecDepth 100000
namespace Go.TF
open Go Go.Abs
theorem capS_of_mem {N : Nat} {A : List api_Arc} (h : NV N A) {S T : Int → Bool} (e : ∀ v : Int, 0 ≤ v → v < N → S v = T v) : Mf.capS (ar A) S = Mf.capS (ar A) T :=
 Mf.capS_congr _ fun a ha => by have := h.net.rng a ha; exact ⟨e _ this.1 this.2.1, e _ this.2.2.1 this.2.2.2⟩
theorem awake15 : law15_awake 1000000000 = some true := by decide +kernel
theorem Done.least {N : Nat} {A : List api_Arc} {f : List Int} (h : NV N A) (d : Done N A f) : Mf.Least (ar A) (Mf.val (ar A) f) := by
 obtain ⟨S, s0, s1, sc⟩ := d.side h
 exact Mf.least_of h.net d.fl S s0 s1 sc
theorem Done.rng {N : Nat} {A : List api_Arc} {f : List Int} (h : NV N A) (d : Done N A f) : 0 ≤ Mf.val (ar A) f ∧ Mf.val (ar A) f ≤ ((A.length * 1048576 : Nat) : Int) := by
 refine ⟨?_, val_bound h f d.fl⟩
 obtain ⟨S, s0, s1, e⟩ := (d.least h).is
 rw [← e]
 exact Mf.capS_nonneg h.net.cap S
theorem ar_set (A : List api_Arc) (i : Nat) (x : api_Arc) : ar (A.set i x) = (ar A).set i ⟨x.From, x.To, x.Cap⟩ := by simp [ar, List.map_set]
def trnF : List api_Arc → List api_Arc
 | [] => []
 | a :: l => trnF l ++ [a, ⟨0, 1, 0⟩]
def twF (A : List api_Arc) : List api_Arc := A.map fun a => ⟨a.From, a.To, 2 * a.Cap⟩
theorem trnF_len : ∀ A : List api_Arc, (trnF A).length = 2 * A.length
 | [] => rfl
 | a :: A => by rw [trnF, List.length_append, trnF_len A]; simp only [List.length_cons, List.length_nil]; omega
theorem trnF_mem : ∀ (A : List api_Arc) (x : api_Arc), x ∈ trnF A → x ∈ A ∨ x = ⟨0, 1, 0⟩
 | [], x, h => by simp [trnF] at h
 | a :: A, x, h => by
  rw [trnF, List.mem_append] at h
  rcases h with h | h
  ·rcases trnF_mem A x h with z | z
   ·exact .inl (List.mem_cons_of_mem _ z)
   ·exact .inr z
  ·simp only [List.mem_cons, List.not_mem_nil, or_false] at h
   rcases h with rfl | rfl
   ·exact .inl List.mem_cons_self
   ·exact .inr rfl
theorem trnF_cap (S : Int → Bool) : ∀ A : List api_Arc, Mf.capS (ar (trnF A)) S = Mf.capS (ar A) S
 | [] => rfl
 | a :: A => by
  have ih := trnF_cap S A
  have e : ar (trnF (a :: A)) = ar (trnF A) ++ [⟨a.From, a.To, a.Cap⟩, ⟨0, 1, 0⟩] := by simp [trnF, ar]
  rw [e, Mf.capS_append, ih]
  simp [Mf.capS, ar, List.map_cons]; omega
theorem twF_cap (S : Int → Bool) : ∀ A : List api_Arc, Mf.capS (ar (twF A)) S = 2 * Mf.capS (ar A) S
 | [] => rfl
 | a :: A => by
  have ih := twF_cap S A
  have e : ar (twF (a :: A)) = ⟨a.From, a.To, 2 * a.Cap⟩ :: ar (twF A) := by simp [twF, ar]
  have e' : ar (a :: A) = ⟨a.From, a.To, a.Cap⟩ :: ar A := by simp [ar]
  rw [e, e']
  simp only [Mf.capS, List.map_cons, List.sum_cons] at ih ⊢
  rw [ih]
  unfold Mf.b2
  split <;> omega
def btF (s : Int) (i : Nat) : Bool := decide (bitsV .and .i64 (Int.fdiv s (2 ^ (min ((IntKind.wrap .u64 (i : Int)).toNat) 64))) 1 = 1)
theorem bits3 : ∀ s : Fin 256, bitsV .and .i64 ((s.val : Nat) : Int) 3 = 1 ↔ btF ((s.val : Nat) : Int) 0 = true ∧ btF ((s.val : Nat) : Int) 1 = false := by decide +kernel
theorem pow8 : ∀ n : Fin 9, IntKind.wrap .i64 (1 * 2 ^ (min ((IntKind.wrap .u64 ((n.val : Nat) : Int)).toNat) 64)) = 2 ^ n.val := by decide +kernel
def ofB (S : Nat → Bool) : Nat → Nat
 | 0 => 0
 | n + 1 => ofB S n + if S n then 2 ^ n else 0
theorem ofB_lt (S : Nat → Bool) : ∀ n, ofB S n < 2 ^ n
 | 0 => by simp [ofB]
 | n + 1 => by have := ofB_lt S n; rw [ofB, Nat.pow_succ]; split <;> omega
theorem bt_ofB : ∀ (t : Fin 256) (i : Fin 8), btF ((t.val : Nat) : Int) i.val = decide (t.val / 2 ^ i.val % 2 = 1) := by decide +kernel
theorem ofB_bit (S : Nat → Bool) : ∀ (n i : Nat), i < n → decide (ofB S n / 2 ^ i % 2 = 1) = S i
 | n + 1, i, h => by
  have lt := ofB_lt S n
  rw [ofB]
  by_cases e : i = n
  ·subst e
   cases S i with
   | true => rw [if_pos rfl, Nat.add_div_right _ (Nat.two_pow_pos i), Nat.div_eq_of_lt lt]; rfl
   | false => rw [if_neg (by simp), Nat.add_zero, Nat.div_eq_of_lt lt]; rfl
  ·rw [← ofB_bit S n i (by omega)]
   split
   ·have : 2 ^ n = 2 ^ i * (2 * 2 ^ (n - i - 1)) := by rw [← Nat.mul_assoc, ← Nat.pow_succ, ← Nat.pow_add]; congr 1; omega
    rw [this, Nat.add_mul_div_left _ _ (Nat.two_pow_pos i), Nat.add_mul_mod_self_left]
   ·rw [Nat.add_zero]
theorem lv_L1 (k : Nat) (A : List api_Arc) (side : List Int) (hA : ∀ a ∈ A, 0 ≤ a.Cap ∧ a.Cap ≤ 1048576) (h9 : A.length ≤ 100000) (hs : side.length < k) (hs9 : side.length ≤ 1000) : ∀ (m i n : Nat) (acc : Int), i + m = A.length → m < n → 0 ≤ acc → acc + cpS (A.drop i) side ≤ 9223372036854775807 →
 law15_leaves.L1 k A side n acc (i : Int) = some (acc + cpS (A.drop i) side)
 | 0, i, n + 1, acc, e, _, _, _ => by
  rw [law15_leaves.L1, if_neg (by omega), List.drop_of_length_le (by omega)]
  simp [cpS, ar, Mf.capS]
 | m + 1, i, n + 1, acc, e, hn, a0, a1 => by
  have hi : i < A.length := by omega
  have c := hA _ (List.getElem_mem hi)
  have nn := (cpS_range (A := A.drop (i + 1)) side (fun a ha => hA a (List.mem_of_mem_drop ha))).1
  rw [List.drop_eq_getElem_cons hi, cpS_cons] at a1
  rw [law15_leaves.L1, if_pos (by omega), idx_pos hi, rHas_eq k side _ hs (by omega), bnd1_some, List.drop_eq_getElem_cons hi, cpS_cons]
  unfold law15_leaves.J2
  rw [sc64 i (by omega)]
  by_cases q : A[i].From ∈ side
  ·rw [if_pos (by simpa using q), rHas_eq k side _ hs (by omega), bnd1_some]
   by_cases q2 : A[i].To ∈ side
   ·rw [if_neg (fun z => z.2 q2)] at a1
    rw [if_neg (by simpa using q2), if_neg (fun z => z.2 q2), Int.zero_add]
    exact lv_L1 k A side hA h9 hs hs9 m (i + 1) n acc (by omega) (by omega) a0 (by omega)
   ·rw [if_pos ⟨q, q2⟩] at a1
    rw [if_pos (by simpa using q2), if_pos ⟨q, q2⟩, w64 (by omega) (by omega), ← Int.add_assoc]
    exact lv_L1 k A side hA h9 hs hs9 m (i + 1) n _ (by omega) (by omega) (by omega) (by omega)
  ·rw [if_neg (fun z => q z.1)] at a1
   rw [if_neg (by simpa using q), if_neg (fun z => q z.1), Int.zero_add]
   exact lv_L1 k A side hA h9 hs hs9 m (i + 1) n acc (by omega) (by omega) a0 (by omega)
structure Sx (s : Int) (i : Nat) (a : List Int) : Prop where
 rng : ∀ x ∈ a, 0 ≤ x ∧ x < i
 mem : ∀ j : Nat, j < i → ((j : Int) ∈ a ↔ btF s j = true)
 len : a.length ≤ i
def ldB (s : Int) (v : Int) : Bool := btF s v.toNat
theorem fl_L3 (N : Nat) (A : List api_Arc) (h : NM N A) (set least : Int) (kb : Int → Int → Option Bool) : ∀ (m i n : Nat) (side : List Int), i + m = N → m < n → Sx set i side → law15_FlowLeast.L3 1000000000 (N : Int) A least set kb n (i : Int) side = kb (min (Mf.capS (ar A) (ldB set)) least) (IntKind.wrap .i64 (set + 1))
 | 0, i, n + 1, side, e, _, sx => by
  have : i = N := by omega
  subst this
  have n8 := h.n8; have ls := sx.len; have l15 := h.l15
  have lv := lv_L1 1000000000 A side (fun x hx => by have := h.nv.ok x hx; omega) (by omega) (by omega) (by omega) A.length 0 1000000000 0 (by omega) (by omega) (by omega) (by rw [List.drop_zero]; have := (cpS_range (A := A) side (fun x hx => by have := h.nv.ok x hx; omega)).2; omega)
  rw [List.drop_zero, Int.zero_add] at lv
  have lv : law15_leaves 1000000000 (i : Int) A side = some (cpS A side) := lv
  have e1 : cpS A side = Mf.capS (ar A) (ldB set) := capS_of_mem h.nv fun v v0 v1 => by
   unfold inS ldB
   have := sx.mem v.toNat (by omega)
   rw [show ((v.toNat : Nat) : Int) = v by omega] at this
   rw [Bool.eq_iff_iff, decide_eq_true_eq]; exact this
  rw [law15_FlowLeast.L3, if_neg (by omega), lv, bnd1_some, let1, law15_FlowLeast.J2, e1]
  congr 1
  rw [Int.min_def]
  split <;> split <;> omega
 | m + 1, i, n + 1, side, e, hn, sx => by
  have n8 := h.n8; have ls := sx.len
  rw [law15_FlowLeast.L3, if_pos (by omega), chk_pos (by rw [wu64 (by omega) (by omega)]; omega)]
  unfold law15_FlowLeast.J4
  rw [sc64 i (by omega)]
  by_cases b : btF set i = true
  ·have b' := b
   unfold btF at b'; rw [decide_eq_true_eq] at b'
   rw [if_pos b', chk_pos (by simp only [List.length_cons, List.length_nil]; omega)]
   refine fl_L3 N A h set least kb m (i + 1) n _ (by omega) (by omega) ⟨fun x hx => ?_, fun j hj => ?_, by simp; omega⟩
   ·rcases List.mem_append.1 hx with hx | hx
    ·have := sx.rng x hx; omega
    ·rw [List.mem_singleton] at hx; omega
   ·rw [List.mem_append, List.mem_singleton]
    by_cases q : j = i
    ·subst q; simp [b]
    ·rw [← sx.mem j (by omega)]
     constructor
     ·rintro (z | z)
      ·exact z
      ·omega
     ·exact .inl
  ·have b' := b
   unfold btF at b'; rw [decide_eq_true_eq] at b'
   rw [if_neg b']
   refine fl_L3 N A h set least kb m (i + 1) n _ (by omega) (by omega) ⟨fun x hx => by have := sx.rng x hx; omega, fun j hj => ?_, by omega⟩
   by_cases q : j = i
   ·subst q
    constructor
    ·intro z; have := sx.rng _ z; omega
    ·intro z; exact absurd z b
   ·exact sx.mem j (by omega)
theorem fl_L1 (N : Nat) (A : List api_Arc) (h : NM N A) (f : List Int) (d : Done N A f) : ∀ (m s n : Nat) (least : Int), s + m = 2 ^ N → m < n → Mf.val (ar A) f ≤ least → (least = Mf.val (ar A) f ∨ ∃ t : Nat, s ≤ t ∧ t < 2 ^ N ∧ bitsV .and .i64 (t : Int) 3 = 1 ∧ Mf.capS (ar A) (ldB (t : Int)) = Mf.val (ar A) f) →
 law15_FlowLeast.L1 1000000000 (N : Int) A f n least (s : Int) = some true
 | 0, s, n + 1, least, e, _, g1, g2 => by
  have n8 := h.n8
  have pw := pow8 ⟨N, by omega⟩
  simp only [] at pw
  have pc : ((2 : Int) ^ N) = ((2 ^ N : Nat) : Int) := by simp
  rw [law15_FlowLeast.L1, chk_pos (by rw [wu64 (by omega) (by omega)]; omega), pw, pc, if_neg (by omega), awake15, bnd1_some, if_pos rfl, fValue_flow 1000000000 N A f h.nv d.fl (by omega), bnd1_some]
  rcases g2 with g2 | ⟨t, t1, t2, _⟩
  ·rw [g2]; simp
  ·omega
 | m + 1, s, n + 1, least, e, hn, g1, g2 => by
  have n8 := h.n8
  have pw := pow8 ⟨N, by omega⟩
  simp only [] at pw
  have pc : ((2 : Int) ^ N) = ((2 ^ N : Nat) : Int) := by simp
  have p8 : 2 ^ N ≤ 256 := Nat.pow_le_pow_right (n := 2) (by omega) n8
  rw [law15_FlowLeast.L1, chk_pos (by rw [wu64 (by omega) (by omega)]; omega), pw, pc, if_pos (by omega)]
  by_cases b : bitsV .and .i64 (s : Int) 3 = 1
  ·rw [if_neg (by simpa using b)]
   obtain ⟨b0, b1⟩ := (bits3 ⟨s, by omega⟩).1 b
   have vl : Mf.val (ar A) f ≤ Mf.capS (ar A) (ldB (s : Int)) := Mf.val_le h.nv.net d.fl _ b0 b1
   have := fl_L3 N A h (s : Int) least (fun v12_ v13_ => law15_FlowLeast.L1 1000000000 (N : Int) A f n v12_ v13_) N 0 1000000000 [] (by omega) (by omega) ⟨by simp, fun j hj => by omega, by simp⟩
   refine this.trans ?_
   rw [sc64 s (by omega)]
   refine fl_L1 N A h f d m (s + 1) n _ (by omega) (by omega) (by omega) ?_
   rcases g2 with g2 | ⟨t, t1, t2, t3, t4⟩
   ·left; omega
   ·by_cases q : t = s
    ·subst q; left; omega
    ·exact .inr ⟨t, by omega, t2, t3, t4⟩
  ·rw [if_pos b]
   unfold law15_FlowLeast.J2
   rw [sc64 s (by omega)]
   refine fl_L1 N A h f d m (s + 1) n _ (by omega) (by omega) g1 ?_
   rcases g2 with g2 | ⟨t, t1, t2, t3, t4⟩
   ·exact .inl g2
   ·by_cases q : t = s
    ·subst q; exact absurd t3 b
    ·exact .inr ⟨t, by omega, t2, t3, t4⟩
theorem FlowLeast_ex (v0 : List Int) (h0 : Fit (.lst false false (v0.map (.int .i64)))) : ∃ k, law15_FlowLeast k v0 = some true := by
 refine ⟨1000000000, ?_⟩
 unfold law15_FlowLeast
 rw [Light_eq, bnd1_some]
 by_cases h : (v0.length : Int) ≤ 400
 ·rw [if_neg (by simpa using h), Roll_eq, bnd2_some]
  obtain ⟨N, A, q, e, hq, nm⟩ := Network_eq 1000000000 v0 0 (by omega) ⟨by omega, by omega⟩ (by omega)
  have l15 := nm.l15; have n8 := nm.n8; have n2 := nm.nv.two
  have p8 : 2 ^ N ≤ 256 := Nat.pow_le_pow_right (n := 2) (by omega) n8
  obtain ⟨f, f1, f2⟩ := fMax_eq 1000000000 N A nm.nv (by omega) (by omega) _ (val_bound nm.nv) (by omega)
  have fl : flB N A f = true := (flB_iff _ _ _).2 ⟨N, rfl, nm.nv, f2.fl⟩
  obtain ⟨S, s0, s1, sc⟩ := (f2.least nm.nv).is
  have big : Mf.val (ar A) f ≤ 1048576 := by
   -- capacities are at most 5
   have q := f2.rng nm.nv
   have : ∀ (B : List api_Arc), (∀ a ∈ B, 0 ≤ a.Cap ∧ a.Cap ≤ 5) → Mf.capS (ar B) S ≤ B.length * 5 := by
    intro B hB
    induction B with
    | nil => simp [ar, Mf.capS]
    | cons b B ih =>
     have c := hB b List.mem_cons_self
     have := ih fun a ha => hB a (List.mem_cons_of_mem _ ha)
     have e' : ar (b :: B) = ⟨b.From, b.To, b.Cap⟩ :: ar B := by simp [ar]
     rw [e']
     simp only [Mf.capS, List.map_cons, List.sum_cons, List.length_cons] at this ⊢
     unfold Mf.b2 at this ⊢
     split <;> omega
   have := this A fun a ha => ⟨(nm.nv.ok a ha).2.2.2.2.2.2.2.1, nm.c5 a ha⟩
   omega
  rw [e, bnd3_some, f1, bnd2_some, if_neg (by simp), rValid_eq 1000000000 N A f (by omega), bnd1_some, fl, if_neg (by simp)]
  have lt := ofB_lt (fun i => S (i : Int)) N
  have bt : ∀ i : Nat, i < N → btF ((ofB (fun i => S (i : Int)) N : Nat) : Int) i = S (i : Int) := fun i hi => by
   have a := bt_ofB ⟨ofB (fun i => S (i : Int)) N, by omega⟩ ⟨i, by omega⟩
   have b := ofB_bit (fun i => S (i : Int)) N i hi
   exact a.trans b
  refine fl_L1 N A nm f f2 (2 ^ N) 0 1000000000 1048576 (by omega) (by omega) big (.inr ⟨ofB (fun i => S (i : Int)) N, by omega, lt, (bits3 ⟨_, by omega⟩).2 ⟨?_, ?_⟩, ?_⟩)
  ·rw [bt 0 (by omega)]; exact s0
  ·rw [bt 1 (by omega)]; exact s1
  ·rw [← sc]
   refine capS_of_mem nm.nv fun v v0 v1 => ?_
   unfold ldB
   rw [bt v.toNat (by omega), show ((v.toNat : Nat) : Int) = v by omega]
 ·rw [if_pos (by simpa using h), awake15, bnd1_some]
end Go.TF
