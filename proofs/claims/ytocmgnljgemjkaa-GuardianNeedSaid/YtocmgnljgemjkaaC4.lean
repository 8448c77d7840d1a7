/- Contracts: the tape of draws. -/
import Derived.Test.YtocmgnljgemjkaaC3
set_option linter.unusedVariables false
set_option linter.unusedSimpArgs false
set_option maxRecDepth 100000
namespace Go.Proofs.YtocmgnljgemjkaaT
open Go Go.Abs Go.Proofs

theorem p19 : PCall Try.prog 19 [] (.bool true) := by
  refine PCall.enter Try.func19 rfl (by simp) (by decide) (by simp) ?_
  intro c0 w0 Q hQ
  refine AW.seqR mixed [] [none] (by kernel_rfl) fun G1 R1 hG1 hR1 => ?_
  simp
  refine ⟨hG1 _ (by kernel_rfl), hR1 _ _ _ ?_⟩
  refine AW.seqR mixed [] [none, none, none, none] (by kernel_rfl) fun G2 R2 hG2 hR2 => ?_
  simp
  refine ⟨hG2 _ (by kernel_rfl), hR2 _ _ _ ?_⟩
  refine AW.seqR mixed [] [none, none, none, some (6, true), some (6, true), some (6, true), some (6, true), none, none, some (12, true), some (12, true), some (12, true), none, none] (by kernel_rfl) fun G3 R3 hG3 hR3 => ?_
  simp
  refine aCall_p (p24 1 2 false true [3, 4, 5]) (by simp) (by simp) ?_
  rw [show validS 1 2 [3, 4, 5] = true from by decide]
  simp
  refine aCall_p (p25 1 2 false true [3, 4, 5] false true [3, 9]) (by simp) (by simp) ?_
  rw [show enoughS 1 2 [3, 4, 5] [3, 9] = false from by decide]
  simp
  refine aCall_p (p25 1 2 false true [3, 4, 5] false true [3, 5]) (by simp) (by simp) ?_
  rw [show enoughS 1 2 [3, 4, 5] [3, 5] = true from by decide]
  simp
  refine ⟨hG3 _ (by kernel_rfl), hR3 _ _ _ ?_⟩
  refine AW.ret (hQ _ _ _ ?_).1
  simp [Try.f19]

abbrev diceO (nl fl : Bool) (ts : List Int) (at_ : Nat) : AObj := .cells [.lst nl fl (ints ts), .int .i64 at_]
def drawS (ts : List Int) (at_ : Nat) (n : Int) : Int := if at_ < ts.length then (if n < 1 then 0 else ts.getD at_ 0 % n) else 0
def atS (ts : List Int) (at_ : Nat) : Nat := if at_ < ts.length then at_ + 1 else at_

theorem p34 (nl fl : Bool) (ts : List Int) (H : Heap) : ACall Try.prog 34 [.lst nl fl (ints ts)] H (.box (diceO nl fl ts 0)) H [] [] := by
  refine ACall.enter Try.func34 rfl (by simp) (by decide) 0 (by simp) (by simp) (by simp) (by simp) (by simp) ?_
  intro c0 w0 Q hQ
  refine AW.seqR mixed [] [none] (by kernel_rfl) fun G1 R1 hG1 hR1 => ?_
  simp
  refine ⟨hG1 _ (by kernel_rfl), hR1 _ _ _ ?_⟩
  refine AW.seqR mixed [] [none, none, none, none] (by kernel_rfl) fun G2 R2 hG2 hR2 => ?_
  simp
  refine ⟨hG2 _ (by kernel_rfl), hR2 _ _ _ ?_⟩
  refine AW.ret (hQ _ _ _ ?_).1
  refine ⟨0, ?_⟩
  simp [Try.f34, AObj.idsIn]

theorem p20 (nl fl : Bool) (ts : List Int) (H : Heap) : ACall Try.prog 20 [.lst nl fl (ints ts)] H (.box (diceO nl fl ts 0)) H [] [] := by
  refine ACall.enter Try.func20 rfl (by simp) (by decide) 0 (by simp) (by simp) (by simp) (by simp) (by simp) ?_
  intro c0 w0 Q hQ
  refine AW.seqR mixed [] [none] (by kernel_rfl) fun G1 R1 hG1 hR1 => ?_
  simp
  refine ⟨hG1 _ (by kernel_rfl), hR1 _ _ _ ?_⟩
  refine AW.seqR mixed [] [none, none, none] (by kernel_rfl) fun G2 R2 hG2 hR2 => ?_
  simp
  refine aCall_box (p34 nl fl ts _) (by simp) (by simp) (by simp) (by simp) ?_
  simp
  refine ⟨hG2 _ (by kernel_rfl), hR2 _ _ _ ?_⟩
  refine AW.ret (hQ _ _ _ ?_).1
  refine ⟨0, ?_⟩
  simp [Try.f20, AObj.idsIn]

theorem p35 (d : Nat) (nl fl : Bool) (ts : List Int) (at_ : Nat) (n : Int) (H : Heap) (hd : H d = some (diceO nl fl ts at_)) :
    ACall Try.prog 35 [.ptr d 0, .int .i64 n] H (.val (.int .i64 (drawS ts at_ n))) (upd H d (some (diceO nl fl ts (atS ts at_)))) [d] [d] := by
  refine ACall.enter Try.func35 rfl (by simp) (by decide) (d + 1) (by simp) (by simp [hd]) (by simp) (by simp) (by simp [hd, AObj.idsIn]) ?_
  intro c0 w0 Q hQ
  refine AW.seqR mixed [] [none] (by kernel_rfl) fun G1 R1 hG1 hR1 => ?_
  simp
  refine ⟨hG1 _ (by kernel_rfl), hR1 _ _ _ ?_⟩
  refine AW.seq fun K2 hK2 => ?_
  refine AW.seqR mixed [] [none, none, none, none, none, none, none, none, none, none] (by kernel_rfl) fun G3 R3 hG3 hR3 => ?_
  simp [hd]
  refine ⟨hG3 _ (by kernel_rfl), hR3 _ _ _ ?_⟩
  refine AW.lenFact 12 (by decide) rfl fun hm => ?_
  simp [maxLen] at hm
  refine AW.cond (by decide) _ rfl (fun h => ?_) (fun h => ?_)
  · simp at h
    refine AW.seqR mixed [] [none] (by kernel_rfl) fun G4 R4 hG4 hR4 => ?_
    simp
    refine ⟨hG4 _ (by kernel_rfl), hR4 _ _ _ ?_⟩
    refine AW.ret (hQ _ _ _ ?_).1
    have h1 : ¬ at_ < ts.length := by omega
    simp [EndA, Try.f35, drawS, atS, h1, hd, AObj.idsIn]
  · simp at h
    refine AW.skip ?_
    refine hK2 _ _ _ ?_
    refine AW.seqR mixed [] [none, none, none, none, none, none, none, none] (by kernel_rfl) fun G5 R5 hG5 hR5 => ?_
    simp [hd]
    refine ⟨hG5 _ (by kernel_rfl), hR5 _ _ _ ?_⟩
    refine AW.seqR mixed [] [none, none, none, none, none, none, none, none, none, none, none, none, none, none] (by kernel_rfl) fun G6 R6 hG6 hR6 => ?_
    have e1 : IntKind.i64.wrap ((at_ : Int) + 1) = (at_ : Int) + 1 := wrap64 (by omega) (by omega)
    have e2 : IntKind.i64.wrap (at_ : Int) = (at_ : Int) := wrap64 (by omega) (by omega)
    simp [e1, e2, h]
    refine aCall_p (p44 _ n) (by simp) (by simp) ?_
    simp
    refine ⟨hG6 _ (by kernel_rfl), hR6 _ _ _ ?_⟩
    refine AW.ret (hQ _ _ _ ?_).1
    simp [EndA, Try.f35, drawS, atS, h, hd, AObj.idsIn]
end Go.Proofs.YtocmgnljgemjkaaT
