/- Contracts: Some, Keys. -/
import Derived.Test.YtocmgnljgemjkaaC4
set_option linter.unusedVariables false
set_option linter.unusedSimpArgs false
set_option maxRecDepth 100000
namespace Go.Proofs.YtocmgnljgemjkaaT
open Go Go.Abs Go.Proofs

def someR (ts : List Int) (at_ : Nat) : Nat → List Int × Nat
  | 0 => ([], at_)
  | k + 1 => (if drawS ts (someR ts at_ k).2 3 = 0 then (someR ts at_ k).1 ++ [(k : Int)] else (someR ts at_ k).1, atS ts (someR ts at_ k).2)

theorem someR_len (ts : List Int) (at_ : Nat) : ∀ k, (someR ts at_ k).1.length ≤ k
  | 0 => by simp [someR]
  | k + 1 => by
    have := someR_len ts at_ k
    simp only [someR]
    split
    · simp; omega
    · omega

theorem p22 (d : Nat) (nl fl : Bool) (ts : List Int) (at_ : Nat) (n : Int) (hn : n ≤ 100000) (H : Heap) (hd : H d = some (diceO nl fl ts at_)) :
    ACall Try.prog 22 [.ptr d 0, .int .i64 n] H (.val (.lst (someR ts at_ n.toNat).1.isEmpty false (ints (someR ts at_ n.toNat).1))) (upd H d (some (diceO nl fl ts (someR ts at_ n.toNat).2))) [d] [d] := by
  refine ACall.enter Try.func22 rfl (by simp) (by decide) (d + 1) (by simp) (by simp [hd]) (by simp) (by simp) (by simp [hd, AObj.idsIn]) ?_
  intro c0 w0 Q hQ
  refine AW.seqR mixed [] [none] (by kernel_rfl) fun G1 R1 hG1 hR1 => ?_
  simp
  refine ⟨hG1 _ (by kernel_rfl), hR1 _ _ _ ?_⟩
  refine AW.seqR mixed [] [none] (by kernel_rfl) fun G2 R2 hG2 hR2 => ?_
  simp
  refine ⟨hG2 _ (by kernel_rfl), hR2 _ _ _ ?_⟩
  refine AW.seq fun K3 hK3 => ?_
  refine AW.seqR mixed [] [none] (by kernel_rfl) fun G4 R4 hG4 hR4 => ?_
  simp
  refine ⟨hG4 _ (by kernel_rfl), hR4 _ _ _ ?_⟩
  refine AW.own 5 1 true rfl (by decide) ?_
  refine AW.block ?_
  refine AW.loop (α := Nat × Nat × Nat) (fun z => z.1 ≤ n.toNat ∧ d < z.2.1 ∧ z.2.1 < z.2.2) (fun z => n.toNat - z.1)
    (fun z => [(0, .ptr d 0), (1, .int .i64 n), (5, .slc z.2.1 0 1 (someR ts at_ z.1).1.length false), (6, .int .i64 z.1)])
    (fun z => [(d, diceO nl fl ts (someR ts at_ z.1).2), (z.2.1, .grow (ints (someR ts at_ z.1).1))]) (fun z => z.2.2) (0, d + 1, d + 2) (by simp) (by simp [someR]) (by simp [someR, hd]) (by simp) ?_
  rintro ⟨i, id, N⟩ ⟨hi, hid, hN⟩ KL5 hL5
  simp only [] at hi hid hN
  have hlen := someR_len ts at_ i
  have hne : d ≠ id := by omega
  have hne' : id ≠ d := by omega
  have hdN : d < N := by omega
  refine AW.seq fun K6 hK6 => ?_
  refine AW.seqR mixed [] [none, none, none] (by kernel_rfl) fun G7 R7 hG7 hR7 => ?_
  simp
  refine ⟨hG7 _ (by kernel_rfl), hR7 _ _ _ ?_⟩
  refine AW.cond (by decide) _ rfl (fun h => ?_) (fun h => ?_)
  · simp at h
    refine AW.skip ?_
    refine hK6 _ _ _ ?_
    refine AW.midL (α := Nat × Nat) (fun z => d < z.1 ∧ z.1 < z.2) (fun z => [(0, .ptr d 0), (1, .int .i64 n), (5, .slc z.1 0 1 (someR ts at_ (i + 1)).1.length false), (6, .int .i64 i)])
      (fun z => [(d, diceO nl fl ts (someR ts at_ (i + 1)).2), (z.1, .grow (ints (someR ts at_ (i + 1)).1))]) (fun z => z.2) (fun K8 hK8 => ?_) ?_
    · refine AW.block ?_
      refine AW.seqR mixed [] [none, none, none] (by kernel_rfl) fun G9 R9 hG9 hR9 => ?_
      simp
      refine aCall_a (p35 d nl fl ts (someR ts at_ i).2 3 _ (by simp)) (by simp) (by simp; omega) (by simp) (by intro i hi; simp at hi; simp [upd_at, hi]) ?_
      simp
      refine ⟨hG9 _ (by kernel_rfl), hR9 _ _ _ ?_⟩
      refine AW.cond (by decide) _ rfl (fun h3 => ?_) (fun h3 => ?_)
      · simp at h3
        refine AW.region mixed [] [none, none, none, none, none] (by kernel_rfl) fun G10 R10 hG10 hR10 => ?_
        simp [hne, hne', hN]
        refine ⟨by simp [maxLen]; omega, by omega, hG10 _ (by kernel_rfl), hR10 _ _ _ ?_⟩
        have q1 : d ≠ N := by omega
        refine hK8 (N, N + 1) _ _ _ ?_ ?_ ?_ ?_
        · simp; omega
        · simp [someR, h3]
        · simp [someR, h3, q1, hne, ints]
        · simp
      · simp at h3
        refine AW.skip ?_
        refine hK8 (id, N) _ _ _ ?_ ?_ ?_ ?_
        · simp; omega
        · simp [someR, h3]
        · simp [someR, h3, hne, hne']
        · simp
    · rintro ⟨id2, N2⟩ ⟨q1, q2⟩
      simp only [] at q1 q2
      refine AW.region mixed [] [none, none, none] (by kernel_rfl) fun G11 R11 hG11 hR11 => ?_
      simp
      refine ⟨hG11 _ (by kernel_rfl), hR11 _ _ _ ?_⟩
      refine hL5 (i + 1, id2, N2) _ _ _ ?_ ?_ ?_ ?_ ?_
      · simp; omega
      · simp; omega
      · simp [wrap64 (show (-9223372036854775808 : Int) ≤ (i : Int) + 1 by omega) (by omega)]
      · have : d ≠ id2 := by omega
        simp [this]
      · simp
  · simp at h
    refine AW.exit ?_
    simp
    refine hK3 _ _ _ ?_
    have hin : i = n.toNat := by omega
    subst hin
    refine AW.freeze 5 rfl (by decide) (o := .grow (ints (someR ts at_ n.toNat).1)) (by simp [hne]) rfl (ints (someR ts at_ n.toNat).1) (by simp) (by simp) (by rw [List.drop_zero, Nat.mul_one, flatA_ints', List.take_of_length_le (by simp)]) (someR ts at_ n.toNat).1.isEmpty (by simp) ?_
    refine AW.seqR mixed [] [none, none] (by kernel_rfl) fun G12 R12 hG12 hR12 => ?_
    simp
    refine ⟨hG12 _ (by kernel_rfl), hR12 _ _ _ ?_⟩
    refine AW.ret (hQ _ _ _ ?_).1
    simp [EndA, Try.f22, hne, AObj.idsIn]

def keysR (ts : List Int) (at_ : Nat) (n : Int) : List Int × Nat :=
  if (someR ts at_ n.toNat).1.length = 0 then ([drawS ts (someR ts at_ n.toNat).2 n], atS ts (someR ts at_ n.toNat).2) else someR ts at_ n.toNat

theorem p21 (d : Nat) (nl fl : Bool) (ts : List Int) (at_ : Nat) (n : Int) (hn : n ≤ 100000) (H : Heap) (hd : H d = some (diceO nl fl ts at_)) :
    ACall Try.prog 21 [.ptr d 0, .int .i64 n] H (.val (.lst false (someR ts at_ n.toNat).1.isEmpty (ints (keysR ts at_ n).1))) (upd H d (some (diceO nl fl ts (keysR ts at_ n).2))) [d] [d] := by
  refine ACall.enter Try.func21 rfl (by simp) (by decide) (d + 1) (by simp) (by simp [hd]) (by simp) (by simp) (by simp [hd, AObj.idsIn]) ?_
  intro c0 w0 Q hQ
  refine AW.seqR mixed [] [none] (by kernel_rfl) fun G1 R1 hG1 hR1 => ?_
  simp
  refine ⟨hG1 _ (by kernel_rfl), hR1 _ _ _ ?_⟩
  refine AW.seqR mixed [] [none, none, none, none] (by kernel_rfl) fun G2 R2 hG2 hR2 => ?_
  simp
  refine aCall_a (p22 d nl fl ts at_ n hn _ (by simp [hd])) (by simp) (by simp) (by simp) (by intro i hi; simp at hi; simp [upd_at, hi]) ?_
  simp
  refine ⟨hG2 _ (by kernel_rfl), hR2 _ _ _ ?_⟩
  refine AW.midL (α := Unit) (fun z => True) (fun z => [(5, .lst false (someR ts at_ n.toNat).1.isEmpty (ints (keysR ts at_ n).1))]) (fun z => [(d, diceO nl fl ts (keysR ts at_ n).2)]) (fun z => d + 1) (fun K3 hK3 => ?_) (fun z hz => ?_)
  · refine AW.seqR mixed [] [none, none, none] (by kernel_rfl) fun G4 R4 hG4 hR4 => ?_
    simp
    refine ⟨hG4 _ (by kernel_rfl), hR4 _ _ _ ?_⟩
    refine AW.cond (by decide) _ rfl (fun h => ?_) (fun h => ?_)
    · simp at h
      refine AW.region mixed [] [none, none, none, none, none] (by kernel_rfl) fun G5 R5 hG5 hR5 => ?_
      simp
      refine aCall_a (p35 d nl fl ts (someR ts at_ n.toNat).2 n _ (by simp)) (by simp) (by simp) (by simp) (by intro i hi; simp at hi; simp [upd_at, hi]) ?_
      simp
      refine ⟨hG5 _ (by kernel_rfl), hR5 _ _ _ ?_⟩
      refine hK3 () _ _ _ trivial ?_ ?_ ?_
      · simp [keysR, h]
      · simp [keysR, h]
      · simp
    · simp at h
      refine AW.skip ?_
      refine hK3 () _ _ _ trivial ?_ ?_ ?_
      · simp [keysR, h]
      · simp [keysR, h]
      · simp
  · refine AW.seqR mixed [] [none, none] (by kernel_rfl) fun G6 R6 hG6 hR6 => ?_
    simp
    refine ⟨hG6 _ (by kernel_rfl), hR6 _ _ _ ?_⟩
    refine AW.ret (hQ _ _ _ ?_).1
    simp [EndA, Try.f21, AObj.idsIn]
theorem p22r (d : Nat) (nl fl : Bool) (ts : List Int) (at_ : Nat) (n : Int) (hn : n ≤ 100000) (H : Heap) (hd : H d = some (diceO nl fl ts at_)) :
    ACall Try.prog 22 [.ptr d 0, .int .i64 n] H (.row 1 (.grow (ints (someR ts at_ n.toNat).1)) (someR ts at_ n.toNat).1.length) (upd H d (some (diceO nl fl ts (someR ts at_ n.toNat).2))) [d] [d] := by
  refine ACall.enter Try.func22 rfl (by simp) (by decide) (d + 1) (by simp) (by simp [hd]) (by simp) (by simp) (by simp [hd, AObj.idsIn]) ?_
  intro c0 w0 Q hQ
  refine AW.seqR mixed [] [none] (by kernel_rfl) fun G1 R1 hG1 hR1 => ?_
  simp
  refine ⟨hG1 _ (by kernel_rfl), hR1 _ _ _ ?_⟩
  refine AW.seqR mixed [] [none] (by kernel_rfl) fun G2 R2 hG2 hR2 => ?_
  simp
  refine ⟨hG2 _ (by kernel_rfl), hR2 _ _ _ ?_⟩
  refine AW.seq fun K3 hK3 => ?_
  refine AW.seqR mixed [] [none] (by kernel_rfl) fun G4 R4 hG4 hR4 => ?_
  simp
  refine ⟨hG4 _ (by kernel_rfl), hR4 _ _ _ ?_⟩
  refine AW.own 5 1 true rfl (by decide) ?_
  refine AW.block ?_
  refine AW.loop (α := Nat × Nat × Nat) (fun z => z.1 ≤ n.toNat ∧ d < z.2.1 ∧ z.2.1 < z.2.2) (fun z => n.toNat - z.1)
    (fun z => [(0, .ptr d 0), (1, .int .i64 n), (5, .slc z.2.1 0 1 (someR ts at_ z.1).1.length false), (6, .int .i64 z.1)])
    (fun z => [(d, diceO nl fl ts (someR ts at_ z.1).2), (z.2.1, .grow (ints (someR ts at_ z.1).1))]) (fun z => z.2.2) (0, d + 1, d + 2) (by simp) (by simp [someR]) (by simp [someR, hd]) (by simp) ?_
  rintro ⟨i, id, N⟩ ⟨hi, hid, hN⟩ KL5 hL5
  simp only [] at hi hid hN
  have hlen := someR_len ts at_ i
  have hne : d ≠ id := by omega
  have hne' : id ≠ d := by omega
  have hdN : d < N := by omega
  refine AW.seq fun K6 hK6 => ?_
  refine AW.seqR mixed [] [none, none, none] (by kernel_rfl) fun G7 R7 hG7 hR7 => ?_
  simp
  refine ⟨hG7 _ (by kernel_rfl), hR7 _ _ _ ?_⟩
  refine AW.cond (by decide) _ rfl (fun h => ?_) (fun h => ?_)
  · simp at h
    refine AW.skip ?_
    refine hK6 _ _ _ ?_
    refine AW.midL (α := Nat × Nat) (fun z => d < z.1 ∧ z.1 < z.2) (fun z => [(0, .ptr d 0), (1, .int .i64 n), (5, .slc z.1 0 1 (someR ts at_ (i + 1)).1.length false), (6, .int .i64 i)])
      (fun z => [(d, diceO nl fl ts (someR ts at_ (i + 1)).2), (z.1, .grow (ints (someR ts at_ (i + 1)).1))]) (fun z => z.2) (fun K8 hK8 => ?_) ?_
    · refine AW.block ?_
      refine AW.seqR mixed [] [none, none, none] (by kernel_rfl) fun G9 R9 hG9 hR9 => ?_
      simp
      refine aCall_a (p35 d nl fl ts (someR ts at_ i).2 3 _ (by simp)) (by simp) (by simp; omega) (by simp) (by intro i hi; simp at hi; simp [upd_at, hi]) ?_
      simp
      refine ⟨hG9 _ (by kernel_rfl), hR9 _ _ _ ?_⟩
      refine AW.cond (by decide) _ rfl (fun h3 => ?_) (fun h3 => ?_)
      · simp at h3
        refine AW.region mixed [] [none, none, none, none, none] (by kernel_rfl) fun G10 R10 hG10 hR10 => ?_
        simp [hne, hne', hN]
        refine ⟨by simp [maxLen]; omega, by omega, hG10 _ (by kernel_rfl), hR10 _ _ _ ?_⟩
        have q1 : d ≠ N := by omega
        refine hK8 (N, N + 1) _ _ _ ?_ ?_ ?_ ?_
        · simp; omega
        · simp [someR, h3]
        · simp [someR, h3, q1, hne, ints]
        · simp
      · simp at h3
        refine AW.skip ?_
        refine hK8 (id, N) _ _ _ ?_ ?_ ?_ ?_
        · simp; omega
        · simp [someR, h3]
        · simp [someR, h3, hne, hne']
        · simp
    · rintro ⟨id2, N2⟩ ⟨q1, q2⟩
      simp only [] at q1 q2
      refine AW.region mixed [] [none, none, none] (by kernel_rfl) fun G11 R11 hG11 hR11 => ?_
      simp
      refine ⟨hG11 _ (by kernel_rfl), hR11 _ _ _ ?_⟩
      refine hL5 (i + 1, id2, N2) _ _ _ ?_ ?_ ?_ ?_ ?_
      · simp; omega
      · simp; omega
      · simp [wrap64 (show (-9223372036854775808 : Int) ≤ (i : Int) + 1 by omega) (by omega)]
      · have : d ≠ id2 := by omega
        simp [this]
      · simp
  · simp at h
    refine AW.exit ?_
    simp
    refine hK3 _ _ _ ?_
    have hin : i = n.toNat := by omega
    subst hin
    refine AW.seqR mixed [] [none, none] (by kernel_rfl) fun G12 R12 hG12 hR12 => ?_
    simp
    refine ⟨hG12 _ (by kernel_rfl), hR12 _ _ _ ?_⟩
    refine AW.ret (hQ _ _ _ ?_).1
    refine ⟨id, false, ?_⟩
    simp [Try.f22, hne, hne', AObj.idsIn, upd_at]


end Go.Proofs.YtocmgnljgemjkaaT
