/- Plain laws: sides and their capacities; least sides; all functions agree; made networks; CutRaw and CutMade. -/
import Derived.Test.YtjmcidiplbkmpaaMa2Prm
set_option linter.unusedVariables false
set_option linter.unusedSimpArgs false
set_option maxRecDepth 100000
namespace Go.TF
open Go Go.Abs
def vS (N : Int) (A : List api_Arc) (side : List Int) : Bool := chkN N A && (setF N none side && (decide ((0 : Int) ∈ side) && !decide ((1 : Int) ∈ side)))
def inS (side : List Int) (v : Int) : Bool := decide (v ∈ side)
def cpS (A : List api_Arc) (side : List Int) : Int := Mf.capS (ar A) (inS side)
theorem vS_iff (N : Int) (A : List api_Arc) (side : List Int) : vS N A side = true ↔ (∃ n : Nat, N = n ∧ NV n A) ∧ ((∀ x ∈ side, 0 ≤ x ∧ x < N) ∧ side.Pairwise (· < ·)) ∧ (0 : Int) ∈ side ∧ (1 : Int) ∉ side := by
 unfold vS
 simp only [Bool.and_eq_true, chkN_iff, setF_iff, decide_eq_true_eq, Bool.not_eq_true', decide_eq_false_iff_not]
theorem cpS_cons (a : api_Arc) (A : List api_Arc) (side : List Int) : cpS (a :: A) side = (if a.From ∈ side ∧ a.To ∉ side then a.Cap else 0) + cpS A side := by
 unfold cpS ar Mf.capS inS Mf.b2
 simp only [List.map_cons, List.sum_cons, decide_eq_true_eq, decide_eq_false_iff_not]
 split <;> omega
theorem cpS_range {A : List api_Arc} (side : List Int) (hA : ∀ a ∈ A, 0 ≤ a.Cap ∧ a.Cap ≤ 1048576) : 0 ≤ cpS A side ∧ cpS A side ≤ A.length * 1048576 := by
 induction A with
 | nil => simp [cpS, ar, Mf.capS]
 | cons a A ih =>
  have := ih fun b hb => hA b (by simp [hb])
  have ha := hA a (by simp)
  rw [cpS_cons, List.length_cons]
  split <;> omega
theorem whB_congr {p q : Int → Bool} (N : Nat) (h : ∀ v : Int, 0 ≤ v → v < N → p v = q v) : whB p N = whB q N := by
 unfold whB
 congr 1
 refine List.filter_congr fun v hv => ?_
 rw [List.mem_range] at hv
 exact h v (by omega) (by omega)
theorem Of_eq' (k : Nat) (l : List Int) (p : Int) (xs : List Int) (hl : l.length ≤ 1000) (hp : Pos p) (h1 : 1 ≤ xs.length) (h9 : xs.length ≤ 1000) : ∃ a q, made_Dice_Of k l p xs = some (a, q) ∧ Pos q ∧ a ∈ xs := by
 unfold made_Dice_Of
 obtain ⟨a, q, e, hq, ha⟩ := Next_eq k l p (xs.length : Int) hl hp
 have ha := ha (by omega) (by omega)
 obtain ⟨j, rfl⟩ := Int.eq_ofNat_of_zero_le ha.1
 rw [e, bnd2_some, idx_pos (by omega)]
 exact ⟨_, _, rfl, hq, List.getElem_mem _⟩
structure NM (N : Nat) (A : List api_Arc) : Prop where
 nv : NV N A
 n8 : N ≤ 8
 l15 : A.length ≤ 15
 c5 : ∀ a ∈ A, a.Cap ≤ 5
theorem net_L1 (k : Nat) (l : List Int) (hl : l.length ≤ 1000) (w : Int) (hw : 0 ≤ w ∧ w < 7) : ∀ (m n : Nat) (p : Int) (A : List api_Arc), m < n → A.length + m ≤ 15 → Pos p → (∀ a ∈ A, 0 ≤ a.From ∧ a.From < 2 + w ∧ 0 ≤ a.To ∧ a.To < 2 + w ∧ a.From ≠ a.To ∧ a.To ≠ 0 ∧ a.From ≠ 1 ∧ 0 ≤ a.Cap ∧ a.Cap ≤ 5) →
 ∃ A' q, made_Dice_Network.L1 k l w n (m : Int) p A = some (2 + w, A', q) ∧ Pos q ∧ A'.length ≤ 15 ∧ (∀ a ∈ A', 0 ≤ a.From ∧ a.From < 2 + w ∧ 0 ≤ a.To ∧ a.To < 2 + w ∧ a.From ≠ a.To ∧ a.To ≠ 0 ∧ a.From ≠ 1 ∧ 0 ≤ a.Cap ∧ a.Cap ≤ 5)
 | 0, n + 1, p, A, _, hm, hp, hA => by
  rw [made_Dice_Network.L1, if_neg (by omega), w64 (by omega) (by omega)]
  exact ⟨A, p, rfl, hp, by omega, hA⟩
 | m + 1, n + 1, p, A, hn, hm, hp, hA => by
  rw [made_Dice_Network.L1, if_pos (by omega), w64 (n := 2 + w) (by omega) (by omega)]
  obtain ⟨a, q, e, hq, ha⟩ := Next_eq k l p (2 + w) hl hp
  have ha := ha (by omega) (by omega)
  obtain ⟨b, q2, e2, hq2, hb⟩ := Next_eq k l q (2 + w) hl hq
  have hb := hb (by omega) (by omega)
  obtain ⟨c, q3, e3, hq3, hc⟩ := Of_eq' k l q2 [1, 2, 0, 5, 3] hl hq2 (by simp) (by simp)
  have hc : 0 ≤ c ∧ c ≤ 5 := by simp at hc; omega
  rw [e, bnd2_some, e2, bnd2_some, e3, bnd2_some]
  have go : ∀ fr to : Int, 0 ≤ fr → fr < 2 + w → fr ≠ 1 → 0 ≤ to → to < 2 + w → to ≠ 0 → ∃ A' q, made_Dice_Network.J4 k ((m + 1 : Nat) : Int) A c q3 fr (fun v9_ v10_ v11_ => made_Dice_Network.L1 k l w n v9_ v10_ v11_) to = some (2 + w, A', q) ∧ Pos q ∧ A'.length ≤ 15 ∧ (∀ a ∈ A', 0 ≤ a.From ∧ a.From < 2 + w ∧ 0 ≤ a.To ∧ a.To < 2 + w ∧ a.From ≠ a.To ∧ a.To ≠ 0 ∧ a.From ≠ 1 ∧ 0 ≤ a.Cap ∧ a.Cap ≤ 5) := by
   intro fr to h1 h2 h3 h4 h5 h6
   unfold made_Dice_Network.J4 made_Dice_Network.J2
   rw [pr64 m (by omega)]
   by_cases z : fr ≠ to
   ·rw [if_pos z, chk_pos (by simp only [List.length_cons, List.length_nil]; omega)]
    refine net_L1 k l hl w hw m n q3 (A ++ [⟨fr, to, c⟩]) (by omega) (by simp only [List.length_append, List.length_cons, List.length_nil]; omega) hq3 fun x hx => ?_
    rcases List.mem_append.1 hx with hx | hx
    ·exact hA x hx
    ·rw [List.mem_singleton] at hx; subst hx; exact ⟨h1, h2, h4, h5, z, h6, h3, hc.1, hc.2⟩
   ·rw [if_neg z]
    exact net_L1 k l hl w hw m n q3 A (by omega) (by omega) hq3 hA
  have go3 : ∀ fr : Int, 0 ≤ fr → fr < 2 + w → fr ≠ 1 → ∃ A' q, made_Dice_Network.J3 k ((m + 1 : Nat) : Int) A b c q3 (fun v9_ v10_ v11_ => made_Dice_Network.L1 k l w n v9_ v10_ v11_) fr = some (2 + w, A', q) ∧ Pos q ∧ A'.length ≤ 15 ∧ (∀ a ∈ A', 0 ≤ a.From ∧ a.From < 2 + w ∧ 0 ≤ a.To ∧ a.To < 2 + w ∧ a.From ≠ a.To ∧ a.To ≠ 0 ∧ a.From ≠ 1 ∧ 0 ≤ a.Cap ∧ a.Cap ≤ 5) := by
   intro fr h1 h2 h3
   unfold made_Dice_Network.J3
   by_cases z : b = 0
   ·rw [if_pos z]; exact go fr 1 h1 h2 h3 (by omega) (by omega) (by omega)
   ·rw [if_neg z]; exact go fr b h1 h2 h3 hb.1 hb.2 z
  by_cases z : a = 1
  ·rw [if_pos z]; exact go3 0 (by omega) (by omega) (by omega)
  ·rw [if_neg z]; exact go3 a ha.1 ha.2 z
theorem Network_eq (k : Nat) (l : List Int) (p : Int) (hl : l.length ≤ 1000) (hp : Pos p) (hk : 20 < k) : ∃ (N : Nat) (A : List api_Arc) (q : Int), made_Dice_Network k l p = some ((N : Int), A, q) ∧ Pos q ∧ NM N A := by
 unfold made_Dice_Network
 obtain ⟨w, q, e, hq, hw⟩ := Next_eq k l p 7 hl hp
 have hw := hw (by omega) (by omega)
 obtain ⟨m, q2, e2, hq2, hm⟩ := Next_eq k l q 16 hl hq
 have hm := hm (by omega) (by omega)
 obtain ⟨m, rfl⟩ := Int.eq_ofNat_of_zero_le hm.1
 obtain ⟨w, rfl⟩ := Int.eq_ofNat_of_zero_le hw.1
 rw [e, bnd2_some, e2, bnd2_some]
 obtain ⟨A, q3, e3, hq3, h1, h2⟩ := net_L1 k l hl (w : Int) hw m k q2 [] (by omega) (by simp only [List.length_nil]; omega) hq2 (by simp)
 refine ⟨2 + w, A, q3, by rw [e3]; simp, hq3, ⟨by omega, by omega, by omega, fun a ha => ?_⟩, by omega, h1, fun a ha => (h2 a ha).2.2.2.2.2.2.2.2⟩
 have := h2 a ha
 exact ⟨this.1, by omega, this.2.2.1, by omega, this.2.2.2.2.1, this.2.2.2.2.2.1, this.2.2.2.2.2.2.1, this.2.2.2.2.2.2.2.1, by omega⟩
end Go.TF
