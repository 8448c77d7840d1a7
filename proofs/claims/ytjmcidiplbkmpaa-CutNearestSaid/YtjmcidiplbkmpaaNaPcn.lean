/- Plain laws: CutNearest and CutSides. -/
import Derived.Test.YtjmcidiplbkmpaaNaPrv
set_option linter.unusedVariables false
set_option linter.unusedSimpArgs false
set_option maxRecDepth 100000
namespace Go.TF
open Go Go.Abs
theorem capS_of_mem {N : Nat} {A : List api_Arc} (h : NV N A) {S T : Int → Bool} (e : ∀ v : Int, 0 ≤ v → v < N → S v = T v) : Mf.capS (ar A) S = Mf.capS (ar A) T :=
 Mf.capS_congr _ fun a ha => by have := h.net.rng a ha; exact ⟨e _ this.1 this.2.1, e _ this.2.2.1 this.2.2.2⟩
structure Sd (i : Nat) (a : List Int) : Prop where
 asc : a.Pairwise (· < ·)
 rng : ∀ x ∈ a, 0 ≤ x ∧ x < i
 z : (0 : Int) ∈ a
 o : (1 : Int) ∉ a
 len : a.length ≤ i
theorem Sd.more {i : Nat} {a : List Int} (h : Sd i a) : Sd (i + 1) a := ⟨h.asc, fun x hx => by have := h.rng x hx; omega, h.z, h.o, by have := h.len; omega⟩
theorem Sd.snoc {i : Nat} {a : List Int} (h : Sd i a) (hi : 2 ≤ i) : Sd (i + 1) (a ++ [(i : Int)]) := by
 refine ⟨?_, fun x hx => ?_, List.mem_append_left _ h.z, fun hx => ?_, by simp; exact h.len⟩
 ·rw [List.pairwise_append]
  exact ⟨h.asc, List.pairwise_singleton .., fun x hx y hy => by rw [List.mem_singleton] at hy; have := h.rng x hx; omega⟩
 ·rcases List.mem_append.1 hx with hx | hx
  ·have := h.rng x hx; omega
  ·rw [List.mem_singleton] at hx; omega
 ·rcases List.mem_append.1 hx with hx | hx
  ·exact h.o hx
  ·rw [List.mem_singleton] at hx; omega
theorem Sd.vs {N : Nat} {A : List api_Arc} (nv : NV N A) {a : List Int} (h : Sd N a) : vS N A a = true := (vS_iff _ _ _).2 ⟨⟨N, rfl, nv⟩, ⟨h.rng, h.asc⟩, h.z, h.o⟩
theorem Sd.two : Sd 2 [0] := ⟨List.pairwise_singleton .., fun x hx => by rw [List.mem_singleton] at hx; omega, by simp, by simp, by simp⟩
def btF (s : Int) (i : Nat) : Bool := decide (bitsV .and .i64 (Int.fdiv s (2 ^ (min ((IntKind.wrap .u64 (i : Int)).toNat) 64))) 1 = 1)
theorem bits3 : ∀ s : Fin 256, bitsV .and .i64 ((s.val : Nat) : Int) 3 = 1 → btF ((s.val : Nat) : Int) 0 = true ∧ btF ((s.val : Nat) : Int) 1 = false := by decide +kernel
theorem pow8 : ∀ n : Fin 9, IntKind.wrap .i64 (1 * 2 ^ (min ((IntKind.wrap .u64 ((n.val : Nat) : Int)).toNat) 64)) ≤ 256 := by decide +kernel
structure Sx (s : Int) (i : Nat) (a : List Int) : Prop where
 asc : a.Pairwise (· < ·)
 rng : ∀ x ∈ a, 0 ≤ x ∧ x < i
 mem : ∀ j : Nat, j < i → ((j : Int) ∈ a ↔ btF s j = true)
 len : a.length ≤ i
theorem cn_L5 (k : Nat) (l side : List Int) (c x set : Int) (kb : Int → Option Bool) (hl : l.length ≤ 1000) (hs : side.length < k) (hs9 : side.length ≤ 1000) (hsub : x = c → ∀ v ∈ l, v ∈ side) : ∀ (m i n : Nat), i + m = l.length → m < n → law16_CutNearest.L5 k l c set side x kb n (i : Int) = kb (IntKind.wrap .i64 (set + 1))
 | 0, i, n + 1, e, _ => by rw [law16_CutNearest.L5, if_neg (by omega)]; rfl
 | m + 1, i, n + 1, e, hn => by
  have hi : i < l.length := by omega
  rw [law16_CutNearest.L5, if_pos (by omega)]
  by_cases q : x = c
  ·rw [if_pos q, idx_pos hi, rHas_eq k side _ hs (by omega), bnd1_some, if_neg (by simpa using hsub q _ (List.getElem_mem hi)), sc64 i (by omega)]
   exact cn_L5 k l side c x set kb hl hs hs9 hsub m (i + 1) n (by omega) (by omega)
  ·rw [if_neg q]; rfl
theorem cn_L3 (N : Nat) (A : List api_Arc) (h : NM N A) (l : List Int) (c : Int) (hl : l.length ≤ 8) (set : Int) (h0 : btF set 0 = true) (h1 : btF set 1 = false) (kb : Int → Option Bool) (hmin : ∀ side, vS N A side = true → c ≤ cpS A side ∧ (cpS A side = c → ∀ v ∈ l, v ∈ side)) : ∀ (m i n : Nat) (side : List Int), i + m = N → m < n → Sx set i side → law16_CutNearest.L3 1000000000 (N : Int) A l c set kb n (i : Int) side = kb (IntKind.wrap .i64 (set + 1))
 | 0, i, n + 1, side, e, _, sx => by
  have : i = N := by omega
  subst this
  have n8 := h.n8; have n2 := h.nv.two; have ls := sx.len
  have vs : vS i A side = true := (vS_iff _ _ _).2 ⟨⟨i, rfl, h.nv⟩, ⟨sx.rng, sx.asc⟩, (sx.mem 0 (by omega)).2 h0, fun q => by
   have := (sx.mem 1 (by omega)).1 q
   rw [h1] at this; cases this⟩
  obtain ⟨g1, g2⟩ := hmin side vs
  rw [law16_CutNearest.L3, if_neg (by omega), rCapacity_eq 1000000000 i A side (by omega) (by omega) (by omega), bnd1_some, if_pos vs, if_neg (by omega)]
  exact cn_L5 1000000000 l side c (cpS A side) set kb (by omega) (by omega) (by omega) g2 l.length 0 1000000000 (by omega) (by omega)
 | m + 1, i, n + 1, side, e, hn, sx => by
  have n8 := h.n8; have ls := sx.len
  rw [law16_CutNearest.L3, if_pos (by omega), chk_pos (by rw [wu64 (by omega) (by omega)]; omega)]
  unfold law16_CutNearest.J4
  rw [sc64 i (by omega)]
  by_cases b : btF set i = true
  ·have b' := b
   unfold btF at b'; rw [decide_eq_true_eq] at b'
   rw [if_pos b', chk_pos (by simp only [List.length_cons, List.length_nil]; omega)]
   refine cn_L3 N A h l c hl set h0 h1 kb hmin m (i + 1) n _ (by omega) (by omega) ⟨?_, fun x hx => ?_, fun j hj => ?_, by simp; omega⟩
   ·rw [List.pairwise_append]
    exact ⟨sx.asc, List.pairwise_singleton .., fun x hx y hy => by rw [List.mem_singleton] at hy; have := sx.rng x hx; omega⟩
   ·rcases List.mem_append.1 hx with hx | hx
    ·have := sx.rng x hx; omega
    ·rw [List.mem_singleton] at hx; omega
   ·rw [List.mem_append, List.mem_singleton]
    by_cases q : j = i
    ·subst q; simp [b]
    ·rw [← sx.mem j (by omega)]
     constructor
     ·rintro (z | z)
      ·exact z
      ·omega
     ·exact .inl
  ·have b' := b
   unfold btF at b'; rw [decide_eq_true_eq] at b'
   rw [if_neg b']
   refine cn_L3 N A h l c hl set h0 h1 kb hmin m (i + 1) n _ (by omega) (by omega) ⟨sx.asc, fun x hx => by have := sx.rng x hx; omega, fun j hj => ?_, by omega⟩
   by_cases q : j = i
   ·subst q
    constructor
    ·intro z; have := sx.rng _ z; omega
    ·intro z; exact absurd z b
   ·exact sx.mem j (by omega)
theorem cn_L1 (N : Nat) (A : List api_Arc) (h : NM N A) (l : List Int) (c : Int) (hl : l.length ≤ 8) (hmin : ∀ side, vS N A side = true → c ≤ cpS A side ∧ (cpS A side = c → ∀ v ∈ l, v ∈ side)) (vl : vS N A l = true) (hc : cpS A l = c) (hv : ∀ f, Done N A f → Mf.val (ar A) f = c) : ∀ (m s n : Nat), s + m = 257 → m < n → law16_CutNearest.L1 1000000000 (N : Int) A l c n (s : Int) = some true
 | m, s, n + 1, e, hn => by
  have n8 := h.n8; have l15 := h.l15
  have pw := pow8 ⟨N, by omega⟩
  rw [law16_CutNearest.L1, chk_pos (by rw [wu64 (by omega) (by omega)]; omega)]
  simp only [] at pw
  by_cases q : (s : Int) < IntKind.wrap .i64 (1 * 2 ^ (min ((IntKind.wrap .u64 ((N : Nat) : Int)).toNat) 64))
  ·rw [if_pos q]
   cases m with
   | zero => omega
   | succ m =>
    have nxt := cn_L1 N A h l c hl hmin vl hc hv m (s + 1) n (by omega) (by omega)
    by_cases b : bitsV .and .i64 (s : Int) 3 = 1
    ·rw [if_neg (by simpa using b)]
     obtain ⟨b0, b1⟩ := bits3 ⟨s, by omega⟩ b
     have := cn_L3 N A h l c hl (s : Int) b0 b1 (fun v13_ => law16_CutNearest.L1 1000000000 (N : Int) A l c n v13_) hmin N 0 1000000000 [] (by omega) (by omega) ⟨.nil, by simp, fun j hj => by omega, by simp⟩
     refine this.trans ?_
     rw [sc64 s (by omega)]; exact nxt
    ·rw [if_pos b]
     unfold law16_CutNearest.J2
     rw [sc64 s (by omega)]; exact nxt
  ·rw [if_neg q]
   obtain ⟨g, e1, d1⟩ := rMax_eq 1000000000 N A h.nv (by omega) _ (val_bound h.nv) (by omega)
   have hr := cpS_range (A := A) l (fun x hx => by have := h.nv.ok x hx; omega)
   have fl : flB N A g = true := (flB_iff _ _ _).2 ⟨N, rfl, h.nv, d1.fl⟩
   rw [e1, bnd2_some, awake16, bnd1_some, if_pos rfl, rValue_eq 1000000000 N A g (by omega), bnd1_some, if_pos fl, if_pos (hv g d1), cProves_eq 1000000000 N A l c (by omega) (by omega) (by omega), bnd1_some, vl, hc, if_pos (by simp), cProves_eq 1000000000 N A l _ (by omega) (by omega) (by omega), bnd1_some, vl, hc,
    w64 (by omega) (by omega)]
   have : ¬ c ≤ c - 1 := by omega
   simp [this]
theorem whB_asc (p : Int → Bool) : ∀ i : Nat, (whB p i).Pairwise (· < ·)
 | 0 => by simp [whB]
 | i + 1 => by
  rw [whB_succ, List.pairwise_append]
  refine ⟨whB_asc p i, by split <;> simp, fun x hx y hy => ?_⟩
  have := mem_whB.1 hx
  split at hy
  ·rw [List.mem_singleton] at hy; omega
  ·simp at hy
theorem CutNearest_ex (v0 : List Int) (h0 : Fit (.lst false false (v0.map (.int .i64)))) : ∃ k, law16_CutNearest k v0 = some true := by
 refine ⟨1000000000, ?_⟩
 unfold law16_CutNearest
 rw [Light_eq, bnd1_some]
 by_cases h : (v0.length : Int) ≤ 400
 ·rw [if_neg (by simpa using h), Roll_eq, bnd2_some]
  obtain ⟨N, A, q, e, hq, nm⟩ := Network_eq 1000000000 v0 0 (by omega) ⟨by omega, by omega⟩ (by omega)
  have n2 := nm.nv.two; have n8 := nm.n8; have l15 := nm.l15
  obtain ⟨f, V, e1, fl, d1, d2, d3⟩ := nearC_eq 1000000000 N A nm.nv (by omega) (by omega) (by omega)
  have hlen : (rchL N V).length ≤ 8 := by have := whB_len (fun v => decide (v = 0 ∨ v ∈ V.map (·.1))) N; unfold rchL; omega
  have hmem : ∀ v : Int, v ∈ rchL N V ↔ 0 ≤ v ∧ v < N ∧ (v = 0 ∨ v ∈ V.map (·.1)) := fun v => by unfold rchL; rw [mem_whB, decide_eq_true_eq]
  have vl : vS N A (rchL N V) = true := (vS_iff _ _ _).2 ⟨⟨N, rfl, nm.nv⟩, ⟨fun x hx => by have := (hmem x).1 hx; exact ⟨this.1, this.2.1⟩, whB_asc _ N⟩, (hmem 0).2 ⟨by omega, by omega, .inl rfl⟩, fun hx => by
   rcases ((hmem 1).1 hx).2.2 with z | z
   ·omega
   ·exact d3 z⟩
  have ecap : cpS A (rchL N V) = Mf.capS (ar A) (fun v => decide (v = 0 ∨ v ∈ V.map (·.1))) := capS_of_mem nm.nv fun v v0 v1 => by
   unfold inS
   refine decide_eq_decide.2 ?_
   rw [hmem v]
   exact ⟨fun z => z.2.2, fun z => ⟨v0, v1, z⟩⟩
  have cl := Mf.disc_closed fl d2
  have vc := Mf.val_closed nm.nv.net fl _ (by simp) (by simpa using d3) cl
  have hc : cpS A (rchL N V) = Mf.val (ar A) f := by rw [ecap, vc]
  have hmin : ∀ side, vS N A side = true → cpS A (rchL N V) ≤ cpS A side ∧ (cpS A side = cpS A (rchL N V) → ∀ v ∈ rchL N V, v ∈ side) := by
   intro side hs
   obtain ⟨_, _, s0, s1⟩ := (vS_iff _ _ _).1 hs
   have i0 : inS side 0 = true := by unfold inS; simpa using s0
   have i1 : inS side 1 = false := by unfold inS; simpa using s1
   have := Mf.val_le nm.nv.net fl (inS side) i0 i1
   refine ⟨by rw [hc]; exact this, fun eq v hv => ?_⟩
   have c3 := Mf.closed_least nm.nv.net fl (inS side) i0 i1 (by rw [← hc]; exact eq)
   rcases ((hmem v).1 hv).2.2 with z | z
   ·rw [z]; exact s0
   ·have := Mf.disc_in fl i0 c3 d1 v z
    unfold inS at this; simpa using this
  have hv : ∀ g, Done N A g → Mf.val (ar A) g = cpS A (rchL N V) := by
   intro g dg
   obtain ⟨S, t0, t1, tc⟩ := dg.side nm.nv
   rw [hc]
   exact Mf.val_eq nm.nv.net dg.fl fl S _ t0 t1 tc (by simp) (by simpa using d3) cl
  rw [e, bnd3_some, e1, bnd2_some, if_neg (by simp), rValid16_eq 1000000000 N A _ (by omega) (by omega) (by omega), bnd1_some, vl, if_neg (by simp), rCapacity_eq 1000000000 N A _ (by omega) (by omega) (by omega), bnd1_some, vl]
  exact cn_L1 N A nm (rchL N V) (cpS A (rchL N V)) hlen hmin vl rfl hv 257 0 1000000000 (by omega) (by omega)
 ·rw [if_pos (by simpa using h), awake16, bnd1_some]
end Go.TF
