/- Contracts: guardian. -/
import Derived.Test.YtocmgnljgemjkaaAbsT
set_option linter.unusedVariables false
set_option linter.unusedSimpArgs false
set_option maxRecDepth 100000
namespace Go.Proofs.YtocmgnljgemjkaaT
open Go Go.Abs Go.Proofs

abbrev ints (xs : List Int) : List AV := xs.map (.int .i64)

def keyS (n : Int) : Bool := decide (0 ≤ n) && decide (n < 64)

theorem p73 (n : Int) : PCall Try.prog 73 [.int .i64 n] (.bool (keyS n)) := by
  refine PCall.enter Try.func73 rfl (by simp) (by decide) (by simp) ?_
  intro c0 w0 Q hQ
  refine AW.seqR mixed [] [none] (by kernel_rfl) fun G1 R1 hG1 hR1 => ?_
  simp
  refine ⟨hG1 _ (by kernel_rfl), hR1 _ _ _ ?_⟩
  refine AW.seqR mixed [] [none, none, none, some (5, true), some (5, true), none, none] (by kernel_rfl) fun G2 R2 hG2 hR2 => ?_
  simp
  refine aops_split _ rfl (fun h => ?_) (fun h => ?_) <;> simp at h <;> simp <;> refine ⟨hG2 _ (by kernel_rfl), hR2 _ _ _ (AW.ret (hQ _ _ _ ?_).1)⟩
  · simp [Try.f73, keyS, h]
  · simp [Try.f73, keyS]; omega

theorem p44 (n m : Int) : PCall Try.prog 44 [.int .i64 n, .int .i64 m] (.int .i64 (if m < 1 then 0 else n % m)) := by
  refine PCall.enter Try.func44 rfl (by simp) (by decide) (by simp) ?_
  intro c0 w0 Q hQ
  refine AW.intFact 0 (by decide) rfl fun hn => ?_
  refine AW.intFact 1 (by decide) rfl fun hm => ?_
  simp [InR, IntKind.min, IntKind.max, IntKind.signed, IntKind.bits] at hn hm
  refine AW.seqR mixed [] [none] (by kernel_rfl) fun G1 R1 hG1 hR1 => ?_
  simp
  refine ⟨hG1 _ (by kernel_rfl), hR1 _ _ _ ?_⟩
  refine AW.seq fun K2 hK2 => ?_
  refine AW.seqR mixed [] [none, none] (by kernel_rfl) fun G3 R3 hG3 hR3 => ?_
  simp
  refine ⟨hG3 _ (by kernel_rfl), hR3 _ _ _ ?_⟩
  refine AW.cond (by decide) _ rfl (fun h => ?_) (fun h => ?_)
  · simp at h
    refine AW.seqR mixed [] [none] (by kernel_rfl) fun G4 R4 hG4 hR4 => ?_
    simp
    refine ⟨hG4 _ (by kernel_rfl), hR4 _ _ _ ?_⟩
    refine AW.ret (hQ _ _ _ ?_).1
    simp [Try.f44, h]
  · simp at h
    have h1 : ¬ m < 1 := by omega
    refine AW.skip ?_
    refine hK2 _ _ _ ?_
    refine AW.seqR mixed [] [none, none, none, none] (by kernel_rfl) fun G5 R5 hG5 hR5 => ?_
    simp
    refine ⟨by omega, hG5 _ (by kernel_rfl), hR5 _ _ _ ?_⟩
    refine AW.midL (α := Unit) (fun z => True) (fun z => [(0, .int .i64 (n % m))]) (fun z => []) (fun z => 0) (fun K6 hK6 => ?_) (fun z hz => ?_)
    · refine AW.seqR mixed [] [none, none] (by kernel_rfl) fun G7 R7 hG7 hR7 => ?_
      simp
      refine ⟨hG7 _ (by kernel_rfl), hR7 _ _ _ ?_⟩
      have e1 : n.tmod m = if 0 ≤ n ∨ n % m = 0 then n % m else n % m - m := by
        have := Int.tmod_eq_emod (a := n) (b := m)
        rw [this]
        have e2 : (m.natAbs : Int) = m := by omega
        by_cases hc : 0 ≤ n ∨ m ∣ n
        · have : 0 ≤ n ∨ n % m = 0 := hc.imp id Int.emod_eq_zero_of_dvd
          simp [hc, this]
        · have : ¬ (0 ≤ n ∨ n % m = 0) := fun k => hc (k.imp id Int.dvd_of_emod_eq_zero)
          simp [hc, this, e2]
      have e3 := Int.emod_nonneg n (show m ≠ 0 by omega)
      have e4 := Int.emod_lt_of_pos n (show 0 < m by omega)
      refine AW.cond (by decide) _ rfl (fun h => ?_) (fun h => ?_)
      · simp at h
        refine AW.region mixed [] [none, none, none, none] (by kernel_rfl) fun G8 R8 hG8 hR8 => ?_
        simp
        refine ⟨hG8 _ (by kernel_rfl), hR8 _ _ _ ?_⟩
        refine hK6 () _ _ _ trivial ?_ ?_ ?_
        · simp
          rw [wrap64 (by split at e1 <;> omega) (by split at e1 <;> omega)]
          split at e1 <;> omega
        · simp
        · simp
      · simp at h
        refine AW.skip ?_
        refine hK6 () _ _ _ trivial ?_ ?_ ?_
        · simp
          split at e1 <;> omega
        · simp
        · simp
    · refine AW.seqR mixed [] [none, none] (by kernel_rfl) fun G9 R9 hG9 hR9 => ?_
      simp
      refine ⟨hG9 _ (by kernel_rfl), hR9 _ _ _ ?_⟩
      refine AW.ret (hQ _ _ _ ?_).1
      simp [Try.f44, h1]
end Go.Proofs.YtocmgnljgemjkaaT
