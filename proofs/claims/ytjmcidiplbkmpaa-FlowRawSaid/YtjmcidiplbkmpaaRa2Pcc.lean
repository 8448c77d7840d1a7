/- Plain laws: sides and their capacities; least sides; all functions agree; made networks; CutRaw and CutMade. -/
import Derived.Test.YtjmcidiplbkmpaaRa2Prm
set_option linter.unusedVariables false
set_option linter.unusedSimpArgs false
set_option maxRecDepth 100000
namespace Go.TF
open Go Go.Abs
def vS (N : Int) (A : List api_Arc) (side : List Int) : Bool := chkN N A && (setF N none side && (decide ((0 : Int) ∈ side) && !decide ((1 : Int) ∈ side)))
def inS (side : List Int) (v : Int) : Bool := decide (v ∈ side)
def cpS (A : List api_Arc) (side : List Int) : Int := Mf.capS (ar A) (inS side)
theorem vS_iff (N : Int) (A : List api_Arc) (side : List Int) : vS N A side = true ↔ (∃ n : Nat, N = n ∧ NV n A) ∧ ((∀ x ∈ side, 0 ≤ x ∧ x < N) ∧ side.Pairwise (· < ·)) ∧ (0 : Int) ∈ side ∧ (1 : Int) ∉ side := by
 unfold vS
 simp only [Bool.and_eq_true, chkN_iff, setF_iff, decide_eq_true_eq, Bool.not_eq_true', decide_eq_false_iff_not]
theorem cpS_cons (a : api_Arc) (A : List api_Arc) (side : List Int) : cpS (a :: A) side = (if a.From ∈ side ∧ a.To ∉ side then a.Cap else 0) + cpS A side := by
 unfold cpS ar Mf.capS inS Mf.b2
 simp only [List.map_cons, List.sum_cons, decide_eq_true_eq, decide_eq_false_iff_not]
 split <;> omega
theorem cpS_range {A : List api_Arc} (side : List Int) (hA : ∀ a ∈ A, 0 ≤ a.Cap ∧ a.Cap ≤ 1048576) : 0 ≤ cpS A side ∧ cpS A side ≤ A.length * 1048576 := by
 induction A with
 | nil => simp [cpS, ar, Mf.capS]
 | cons a A ih =>
  have := ih fun b hb => hA b (by simp [hb])
  have ha := hA a (by simp)
  rw [cpS_cons, List.length_cons]
  split <;> omega
theorem whB_congr {p q : Int → Bool} (N : Nat) (h : ∀ v : Int, 0 ≤ v → v < N → p v = q v) : whB p N = whB q N := by
 unfold whB
 congr 1
 refine List.filter_congr fun v hv => ?_
 rw [List.mem_range] at hv
 exact h v (by omega) (by omega)
structure NM (N : Nat) (A : List api_Arc) : Prop where
 nv : NV N A
 n8 : N ≤ 8
 l15 : A.length ≤ 15
 c5 : ∀ a ∈ A, a.Cap ≤ 5
end Go.TF
