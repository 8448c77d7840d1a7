/- Plain laws: CutNearest and CutSides. -/
import Derived.Test.YtjmcidiplbkmpaaSaPrv
set_option linter.unusedVariables false
set_option linter.unusedSimpArgs false
set_option maxRecDepth 100000
namespace Go.TF
open Go Go.Abs
theorem capS_of_mem {N : Nat} {A : List api_Arc} (h : NV N A) {S T : Int → Bool} (e : ∀ v : Int, 0 ≤ v → v < N → S v = T v) : Mf.capS (ar A) S = Mf.capS (ar A) T :=
 Mf.capS_congr _ fun a ha => by have := h.net.rng a ha; exact ⟨e _ this.1 this.2.1, e _ this.2.2.1 this.2.2.2⟩
structure Sd (i : Nat) (a : List Int) : Prop where
 asc : a.Pairwise (· < ·)
 rng : ∀ x ∈ a, 0 ≤ x ∧ x < i
 z : (0 : Int) ∈ a
 o : (1 : Int) ∉ a
 len : a.length ≤ i
theorem Sd.more {i : Nat} {a : List Int} (h : Sd i a) : Sd (i + 1) a := ⟨h.asc, fun x hx => by have := h.rng x hx; omega, h.z, h.o, by have := h.len; omega⟩
theorem Sd.snoc {i : Nat} {a : List Int} (h : Sd i a) (hi : 2 ≤ i) : Sd (i + 1) (a ++ [(i : Int)]) := by
 refine ⟨?_, fun x hx => ?_, List.mem_append_left _ h.z, fun hx => ?_, by simp; exact h.len⟩
 ·rw [List.pairwise_append]
  exact ⟨h.asc, List.pairwise_singleton .., fun x hx y hy => by rw [List.mem_singleton] at hy; have := h.rng x hx; omega⟩
 ·rcases List.mem_append.1 hx with hx | hx
  ·have := h.rng x hx; omega
  ·rw [List.mem_singleton] at hx; omega
 ·rcases List.mem_append.1 hx with hx | hx
  ·exact h.o hx
  ·rw [List.mem_singleton] at hx; omega
theorem Sd.vs {N : Nat} {A : List api_Arc} (nv : NV N A) {a : List Int} (h : Sd N a) : vS N A a = true := (vS_iff _ _ _).2 ⟨⟨N, rfl, nv⟩, ⟨h.rng, h.asc⟩, h.z, h.o⟩
theorem cs_L1 (l : List Int) (hl : l.length ≤ 1000) (N : Nat) (A : List api_Arc) (h : NM N A) : ∀ (m i n : Nat) (p : Int) (a b o d : List Int), i + m = N → m < n → 2 ≤ i → Pos p → Sd i a → Sd i b → Sd i o → Sd i d → (∀ x, x ∈ o ↔ x ∈ a ∨ x ∈ b) → (∀ x, x ∈ d ↔ x ∈ a ∧ x ∈ b) →
 law16_CutSides.L1 1000000000 l (N : Int) A n (i : Int) p a b o d = some true
 | 0, i, n + 1, p, a, b, o, d, e, _, i2, hp, sa, sb, so, sd, ho, hd => by
  have : i = N := by omega
  subst this
  have n8 := h.n8; have l15 := h.l15
  have la := sa.len; have lb := sb.len; have lo := so.len; have ld := sd.len
  have va := sa.vs h.nv; have vb := sb.vs h.nv; have vo := so.vs h.nv; have vd := sd.vs h.nv
  have cap := fun (s : List Int) (hs : s.length ≤ 8) => cCapacity_eq 1000000000 (i : Int) A s (by omega) (by omega) (by omega)
  have hA : ∀ x ∈ A, 0 ≤ x.Cap ∧ x.Cap ≤ 1048576 := fun x hx => by have := h.nv.ok x hx; omega
  have ra := cpS_range a hA; have rb := cpS_range b hA; have ro := cpS_range o hA; have rd := cpS_range d hA
  have sub := Mf.submod (A := ar A) h.nv.net.cap (inS a) (inS b)
  have e1 : Mf.capS (ar A) (fun v => inS a v || inS b v) = cpS A o := by
   unfold cpS; congr 1; funext v; unfold inS
   rw [Bool.eq_iff_iff]; simp [ho v]
  have e2 : Mf.capS (ar A) (fun v => inS a v && inS b v) = cpS A d := by
   unfold cpS; congr 1; funext v; unfold inS
   rw [Bool.eq_iff_iff]; simp [hd v]
  rw [e1, e2] at sub
  have sub : cpS A o + cpS A d ≤ cpS A a + cpS A b := sub
  rw [law16_CutSides.L1, if_neg (by omega), awake16, bnd1_some, if_pos rfl, cap o (by omega), bnd1_some, cap d (by omega), bnd1_some, cap a (by omega), bnd1_some, cap b (by omega), bnd1_some, if_pos vo, if_pos vd, if_pos va, if_pos vb, w64 (by omega) (by omega), w64 (by omega) (by omega), if_pos sub,
   cValid_eq 1000000000 i A a (by omega) (by omega) (by omega), bnd1_some, if_pos va, cValid_eq 1000000000 i A o (by omega) (by omega) (by omega), bnd1_some, vo]
 | m + 1, i, n + 1, p, a, b, o, d, e, hn, i2, hp, sa, sb, so, sd, ho, hd => by
  have n8 := h.n8
  have la := sa.len; have lb := sb.len; have lo := so.len; have ld := sd.len
  obtain ⟨x, q, e1, hq⟩ := One_eq' 1000000000 l p 2 hl hp
  obtain ⟨y, q2, e2, hq2⟩ := One_eq' 1000000000 l q 2 hl hq
  have ni : ∀ {s : List Int}, Sd i s → (i : Int) ∉ s := fun hs hx => by have := hs.rng _ hx; omega
  have go := fun (a b o d : List Int) (sa : Sd (i + 1) a) (sb : Sd (i + 1) b) (so : Sd (i + 1) o) (sd : Sd (i + 1) d) (ho : ∀ x, x ∈ o ↔ x ∈ a ∨ x ∈ b) (hd : ∀ x, x ∈ d ↔ x ∈ a ∧ x ∈ b) => cs_L1 l hl N A h m (i + 1) n q2 a b o d (by omega) (by omega) (by omega) hq2 sa sb so sd ho hd
  rw [law16_CutSides.L1, if_pos (by omega), e1, bnd2_some, e2, bnd2_some]
  unfold law16_CutSides.J3 law16_CutSides.J4 law16_CutSides.J5 law16_CutSides.J2
  have cl : ∀ s : List Int, s.length ≤ i → (s.length + ([(i : Int)] : List Int).length) * 8 ≤ 140737488355328 := fun s hs => by simp only [List.length_cons, List.length_nil]; omega
  simp only [sc64 i (by omega)]
  cases x with
  | true =>
   rw [if_pos rfl, chk_pos (cl a la)]
   cases y with
   | true =>
    rw [if_pos rfl, chk_pos (cl b lb), if_pos rfl, chk_pos (cl o lo), if_pos trivial, if_pos rfl, chk_pos (cl d ld)]
    refine go _ _ _ _ (sa.snoc i2) (sb.snoc i2) (so.snoc i2) (sd.snoc i2) (fun z => ?_) (fun z => ?_)
    ·simp only [List.mem_append, List.mem_singleton, ho z]
     constructor
     ·rintro ((q | q) | q); exact .inl (.inl q); exact .inr (.inl q); exact .inl (.inr q)
     ·rintro ((q | q) | (q | q)); exact .inl (.inl q); exact .inr q; exact .inl (.inr q); exact .inr q
    ·simp only [List.mem_append, List.mem_singleton, hd z]
     constructor
     ·rintro (⟨q1, q2⟩ | q); exact ⟨.inl q1, .inl q2⟩; exact ⟨.inr q, .inr q⟩
     ·rintro ⟨q1 | q1, q2 | q2⟩
      ·exact .inl ⟨q1, q2⟩
      ·exact .inr q2
      ·exact .inr q1
      ·exact .inr q1
   | false =>
    rw [if_neg (by simp), if_pos rfl, chk_pos (cl o lo), if_pos trivial, if_neg (by simp)]
    refine go _ _ _ _ (sa.snoc i2) sb.more (so.snoc i2) sd.more (fun z => ?_) (fun z => ?_)
    ·simp only [List.mem_append, List.mem_singleton, ho z]
     constructor
     ·rintro ((q | q) | q); exact .inl (.inl q); exact .inr q; exact .inl (.inr q)
     ·rintro ((q | q) | q); exact .inl (.inl q); exact .inr q; exact .inl (.inr q)
    ·simp only [List.mem_append, List.mem_singleton, hd z]
     constructor
     ·rintro ⟨q1, q2⟩; exact ⟨.inl q1, q2⟩
     ·rintro ⟨q1 | q1, q2⟩
      ·exact ⟨q1, q2⟩
      ·subst q1; exact absurd q2 (ni sb)
  | false =>
   rw [if_neg (by simp)]
   cases y with
   | true =>
    rw [if_pos rfl, chk_pos (cl b lb), if_neg (by simp), if_pos rfl, chk_pos (cl o lo), if_neg (by simp)]
    refine go _ _ _ _ sa.more (sb.snoc i2) (so.snoc i2) sd.more (fun z => ?_) (fun z => ?_)
    ·simp only [List.mem_append, List.mem_singleton, ho z]
     constructor
     ·rintro ((q | q) | q); exact .inl q; exact .inr (.inl q); exact .inr (.inr q)
     ·rintro (q | (q | q)); exact .inl (.inl q); exact .inl (.inr q); exact .inr q
    ·simp only [List.mem_append, List.mem_singleton, hd z]
     constructor
     ·rintro ⟨q1, q2⟩; exact ⟨q1, .inl q2⟩
     ·rintro ⟨q1, q2 | q2⟩
      ·exact ⟨q1, q2⟩
      ·subst q2; exact absurd q1 (ni sa)
   | false =>
    rw [if_neg (by simp), if_neg (by simp), if_neg (by simp), if_neg (by simp)]
    exact go _ _ _ _ sa.more sb.more so.more sd.more ho hd
theorem Sd.two : Sd 2 [0] := ⟨List.pairwise_singleton .., fun x hx => by rw [List.mem_singleton] at hx; omega, by simp, by simp, by simp⟩
theorem CutSides_ex (v0 : List Int) (h0 : Fit (.lst false false (v0.map (.int .i64)))) : ∃ k, law16_CutSides k v0 = some true := by
 refine ⟨1000000000, ?_⟩
 unfold law16_CutSides
 rw [Light_eq, bnd1_some]
 by_cases h : (v0.length : Int) ≤ 400
 ·rw [if_neg (by simpa using h), Roll_eq, bnd2_some]
  obtain ⟨N, A, q, e, hq, nm⟩ := Network_eq 1000000000 v0 0 (by omega) ⟨by omega, by omega⟩ (by omega)
  have := nm.nv.two; have := nm.n8
  rw [e, bnd3_some]
  exact cs_L1 v0 (by omega) N A nm (N - 2) 2 1000000000 q [0] [0] [0] [0] (by omega) (by omega) (by omega) hq Sd.two Sd.two Sd.two Sd.two (by simp) (by simp)
 ·rw [if_pos (by simpa using h), awake16, bnd1_some]
def btF (s : Int) (i : Nat) : Bool := decide (bitsV .and .i64 (Int.fdiv s (2 ^ (min ((IntKind.wrap .u64 (i : Int)).toNat) 64))) 1 = 1)
theorem bits3 : ∀ s : Fin 256, bitsV .and .i64 ((s.val : Nat) : Int) 3 = 1 → btF ((s.val : Nat) : Int) 0 = true ∧ btF ((s.val : Nat) : Int) 1 = false := by decide +kernel
theorem pow8 : ∀ n : Fin 9, IntKind.wrap .i64 (1 * 2 ^ (min ((IntKind.wrap .u64 ((n.val : Nat) : Int)).toNat) 64)) ≤ 256 := by decide +kernel
structure Sx (s : Int) (i : Nat) (a : List Int) : Prop where
 asc : a.Pairwise (· < ·)
 rng : ∀ x ∈ a, 0 ≤ x ∧ x < i
 mem : ∀ j : Nat, j < i → ((j : Int) ∈ a ↔ btF s j = true)
 len : a.length ≤ i
theorem whB_asc (p : Int → Bool) : ∀ i : Nat, (whB p i).Pairwise (· < ·)
 | 0 => by simp [whB]
 | i + 1 => by
  rw [whB_succ, List.pairwise_append]
  refine ⟨whB_asc p i, by split <;> simp, fun x hx y hy => ?_⟩
  have := mem_whB.1 hx
  split at hy
  ·rw [List.mem_singleton] at hy; omega
  ·simp at hy
end Go.TF
