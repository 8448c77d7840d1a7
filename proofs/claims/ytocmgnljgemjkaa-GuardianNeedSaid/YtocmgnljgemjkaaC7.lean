/- GuardianNeed: the walk. -/
import Derived.Test.YtocmgnljgemjkaaC6
set_option linter.unusedVariables false
set_option linter.unusedSimpArgs false
set_option maxRecDepth 100000
namespace Go.Proofs.YtocmgnljgemjkaaT
open Go Go.Abs Go.Proofs

theorem coeE (H : Heap) (N m : Nat) (S : List Int) (x : AV) (hx : noIds x) (hH : H N = some (.grow (ints S))) (hm : S.length = m) : CoeAs H [x, .slc N 0 1 m false] [x, .lst S.isEmpty false (ints S)] [N] := by
  subst hm
  have h2 : okEls 1 (ints S) := by simp
  have h1 : CoeA H (.slc N 0 1 S.length false) (.lst S.isEmpty false (ints S)) [N] :=
    .lst hH rfl h2.1 h2.2 (by simp) (by simp) (by rw [List.drop_zero, Nat.mul_one, flatA_ints', List.take_of_length_le (by simp)]) S.isEmpty (by simp)
  exact .cons (T := []) (.same hx) (.cons (T := [N]) (U := []) h1 .nil)

theorem p3 (nl fl : Bool) (ts : List Int) : PCall Try.prog 3 [.lst nl fl (ints ts)] (.bool true) := by
  refine PCall.enter Try.func3 rfl (by simp) (by decide) (by simp) ?_
  intro c0 w0 Q hQ
  refine AW.seqR mixed [] [none] (by kernel_rfl) fun G1 R1 hG1 hR1 => ?_
  simp
  refine ⟨hG1 _ (by kernel_rfl), hR1 _ _ _ ?_⟩
  refine AW.seq fun K2 hK2 => ?_
  refine AW.seqR mixed [] [none, none, none] (by kernel_rfl) fun G3 R3 hG3 hR3 => ?_
  simp
  refine aCall_p (p18 nl fl (ints ts)) (by simp) (by simp) ?_
  simp
  refine ⟨hG3 _ (by kernel_rfl), hR3 _ _ _ ?_⟩
  refine AW.cond (by decide) _ rfl (fun h => ?_) (fun h => ?_)
  · simp at h
    refine AW.seqR mixed [] [none, none] (by kernel_rfl) fun G4 R4 hG4 hR4 => ?_
    simp
    refine aCall_p p19 (by simp) (by simp) ?_
    simp
    refine ⟨hG4 _ (by kernel_rfl), hR4 _ _ _ ?_⟩
    refine AW.ret (hQ _ _ _ ?_).1
    simp [Try.f3]
  · simp at h
    refine AW.skip ?_
    refine hK2 _ _ _ ?_
    refine AW.seqR mixed [] [none, none, none] (by kernel_rfl) fun G5 R5 hG5 hR5 => ?_
    simp
    refine aCall_box (p20 nl fl ts _) (by simp) (by simp) (by simp) (by simp) ?_
    simp
    refine ⟨hG5 _ (by kernel_rfl), hR5 _ _ _ ?_⟩
    refine AW.seqR mixed [] [none, none, none, none, none] (by kernel_rfl) fun G6 R6 hG6 hR6 => ?_
    simp
    refine aCall_a (p21 0 nl fl ts 0 12 (by omega) _ (by simp)) (by simp) (by simp) (by simp) (by intro i hi; simp at hi; simp [upd_at, hi]) ?_
    have hlen := keysR_len ts
    have hval := keys_valid ts
    have hcom := countS_comm ts ts
    generalize (keysR ts 0 12).1 = KS at hlen hval hcom ⊢
    generalize (keysR ts 0 12).2 = a0
    generalize (someR ts 0 (12 : Int).toNat).1.isEmpty = fK
    simp
    refine ⟨hG6 _ (by kernel_rfl), hR6 _ _ _ ?_⟩
    refine AW.seq fun K7 hK7 => ?_
    refine AW.seqR mixed [] [none, none] (by kernel_rfl) fun G8 R8 hG8 hR8 => ?_
    simp
    refine ⟨hG8 _ (by kernel_rfl), hR8 _ _ _ ?_⟩
    refine AW.block ?_
    refine AW.loop (α := Nat × Nat × Nat) (fun z => 1 ≤ z.1 ∧ z.1 ≤ KS.length + 1 ∧ 2 ≤ z.2.2) (fun z => KS.length + 1 - z.1) (fun z => [(3, .ptr 0 0), (4, .ptr 1 0)])
      (fun z => [(0, diceO nl fl ts z.2.1), (1, .cells [.int .i64 20, .int .i64 z.1, .lst false fK (ints KS)])]) (fun z => z.2.2) (1, a0, 2) (by simp) (by simp) (by simp) (by simp) ?_
    rintro ⟨need, a, N⟩ ⟨hn1, hn2, hN⟩ KL9 hL9
    simp only [] at hn1 hn2 hN
    have n0 : ¬ 0 = N := by omega
    have n1 : ¬ 1 = N := by omega
    have m0 : 0 < N := by omega
    have m1 : 1 < N := by omega
    refine AW.seq fun K10 hK10 => ?_
    refine AW.seqR mixed [] [none, none, none, none, none, none] (by kernel_rfl) fun G11 R11 hG11 hR11 => ?_
    simp [m0, m1]
    refine ⟨hG11 _ (by kernel_rfl), hR11 _ _ _ ?_⟩
    refine AW.cond (by decide) _ rfl (fun h => ?_) (fun h => ?_)
    · simp at h
      refine AW.skip ?_
      refine hK10 _ _ _ ?_
      refine AW.seq fun K12 hK12 => ?_
      refine AW.block ?_
      refine AW.seqR mixed [] [none, none, none] (by kernel_rfl) fun G13 R13 hG13 hR13 => ?_
      simp
      refine aCall_row (p22r 0 nl fl ts a 15 (by omega) _ (by simp)) (by simp) (by simp [m0]) (by simp) (by intro i hi; simp at hi; simp [upd_at, hi]) ?_
      have hcom2 := hcom a 15
      have hsl := someR_len ts a 15
      have e15 : (15 : Int).toNat = 15 := rfl
      rw [e15]
      generalize (someR ts a 15).1 = S at hcom2 hsl ⊢
      generalize (someR ts a 15).2 = a2
      simp
      refine ⟨hG13 _ (by kernel_rfl), hR13 _ _ _ ?_⟩
      refine AW.seqR mixed [] [none] (by kernel_rfl) fun G14 R14 hG14 hR14 => ?_
      simp
      refine ⟨hG14 _ (by kernel_rfl), hR14 _ _ _ ?_⟩
      refine AW.seq fun K15 hK15 => ?_
      refine AW.seqR mixed [] [none] (by kernel_rfl) fun G16 R16 hG16 hR16 => ?_
      simp
      refine ⟨hG16 _ (by kernel_rfl), hR16 _ _ _ ?_⟩
      refine AW.block ?_
      refine AW.loop (α := Nat) (fun i => i ≤ S.length) (fun i => S.length - i)
        (fun i => [(3, .ptr 0 0), (4, .ptr 1 0), (5, .slc N 0 1 S.length false), (6, .int .i64 (countS (S.take i) KS)), (7, .int .i64 i)])
        (fun i => [(0, diceO nl fl ts a2), (1, .cells [.int .i64 20, .int .i64 need, .lst false fK (ints KS)]), (N, .grow (ints S))]) (fun i => N + 1) 0 (by simp) (by simp [countS]) (by simp [n0, n1]) (by simp) ?_
      intro i hi KL17 hL17
      refine AW.seq fun K18 hK18 => ?_
      refine AW.seqR mixed [] [none, none, none, none] (by kernel_rfl) fun G19 R19 hG19 hR19 => ?_
      simp [n0, n1]
      refine ⟨hG19 _ (by kernel_rfl), hR19 _ _ _ ?_⟩
      have hcl : countS (S.take i) KS ≤ i := by have := countS_le (S.take i) KS; simp at this; omega
      refine AW.cond (by decide) _ rfl (fun h2 => ?_) (fun h2 => ?_)
      · simp at h2
        have hS : ¬ S = [] := by intro e; subst e; simp at h2
        refine AW.skip ?_
        refine hK18 _ _ _ ?_
        refine AW.midL (α := Unit) (fun z => True) (fun z => [(3, .ptr 0 0), (4, .ptr 1 0), (5, .slc N 0 1 S.length false), (6, .int .i64 (countS (S.take (i + 1)) KS)), (7, .int .i64 i)])
          (fun z => [(0, diceO nl fl ts a2), (1, .cells [.int .i64 20, .int .i64 need, .lst false fK (ints KS)]), (N, .grow (ints S))]) (fun z => N + 1) (fun K20 hK20 => ?_) (fun z hz => ?_)
        · refine AW.block ?_
          refine AW.seqR mixed [] [none, none, none, none, none, none, none] (by kernel_rfl) fun G21 R21 hG21 hR21 => ?_
          simp [n0, n1, h2, hS, m0]
          refine aCall_p (p23 false fK KS _) (by simp) (by simp) ?_
          simp
          refine ⟨hG21 _ (by kernel_rfl), hR21 _ _ _ ?_⟩
          refine AW.cond (by decide) _ rfl (fun h3 => ?_) (fun h3 => ?_)
          · simp at h3
            refine AW.region mixed [] [none, none, none] (by kernel_rfl) fun G22 R22 hG22 hR22 => ?_
            simp
            refine ⟨hG22 _ (by kernel_rfl), hR22 _ _ _ ?_⟩
            refine hK20 () _ _ _ trivial ?_ ?_ ?_
            · rw [countS_take S KS i h2]
              simp [h3, wrap64 (show (-9223372036854775808 : Int) ≤ (countS (S.take i) KS : Int) + 1 by omega) (by omega)]
            · simp [n0, n1]
            · simp
          · simp at h3
            refine AW.skip ?_
            refine hK20 () _ _ _ trivial ?_ ?_ ?_
            · rw [countS_take S KS i h2]
              simp [h3]
            · simp [n0, n1]
            · simp
        · refine AW.region mixed [] [none, none, none] (by kernel_rfl) fun G23 R23 hG23 hR23 => ?_
          simp
          refine ⟨hG23 _ (by kernel_rfl), hR23 _ _ _ ?_⟩
          refine hL17 (i + 1) _ _ _ ?_ ?_ ?_ ?_ ?_
          · omega
          · omega
          · simp [wrap64 (show (-9223372036854775808 : Int) ≤ (i : Int) + 1 by omega) (by omega)]
          · simp [n0, n1]
          · simp
      · simp at h2
        refine AW.exit ?_
        simp
        refine hK15 _ _ _ ?_
        refine AW.seqR mixed [] [none, none, none, none, some (48, false), some (48, false), some (48, false), some (48, false), some (48, false), some (48, false), some (48, false), some (48, false), none, none, some (58, false), some (58, false), some (58, false), some (58, false), some (58, false), some (58, false), some (58, false), some (58, false), some (58, false), some (58, false), none] (by kernel_rfl) fun G24 R24 hG24 hR24 => ?_
        simp [m0]
        have hv : validS 20 need KS = true := by rw [hval]; simp; omega
        have ht : S.take i = S := List.take_of_length_le h2
        have he1 : enoughS 20 need KS S = decide ((need : Int) ≤ countS KS S) := by simp [enoughS, hv]
        have he2 : enoughS 20 need KS (S ++ S) = decide ((need : Int) ≤ countS KS S) := by simp [enoughS, hv, countS_twice]
        have hts : (ints S).take S.length = ints S := List.take_of_length_le (by simp)
        refine aCall_p (p24 20 need false fK KS) (by simp) (by simp) ?_
        rw [hv]
        simp [m0]
        refine aCall_r (p25 20 need false fK KS S.isEmpty false S) (by simp) (coeE _ N _ S _ (by simp) (by simp [n0, n1]) rfl) (by simp) (by simp) ?_
        rw [he1]
        simp [m0, m1, n0, n1, ht, ← hcom2, hts]
        have n2 : ¬ N = 0 := by omega
        have n3 : ¬ N = 1 := by omega
        refine ⟨⟨_, _, ⟨rfl, rfl⟩, by simp⟩, by simp [maxLen]; omega, by omega, ?_⟩
        refine aCall_r (p25 20 need false fK KS (S ++ S).isEmpty false (S ++ S)) (by simp) (coeE _ (N + 1) _ (S ++ S) _ (by simp) (by simp [upd_at, ints]) (by simp)) (by simp) (by simp) ?_
        rw [he2]
        simp [m0, m1, n0, n1, n2, n3, ht, ← hcom2]
        have r1 : ¬ N ≤ 1 := by omega
        refine ⟨hG24 _ (order_map (fun x => if x ≤ 1 then x else x - N + 2) [([1], []), ([], []), ([], []), ([], []), ([1], []), ([], []), ([2], []), ([], []), ([1], []), ([1], []),
          ([], []), ([], []), ([], []), ([], []), ([1], []), ([], []), ([], []), ([2, 2], [2, 3]), ([3], []),
          ([], []), ([1], []), ([1], []), ([], []), ([], []), ([], [])] (by simp [r1, n2]; try omega) (by kernel_rfl)), hR24 _ _ _ ?_⟩
        refine AW.cond (by decide) _ rfl (fun h4 => ?_) (fun h4 => ?_)
        · exfalso; simp at h4
        · refine AW.skip ?_
          refine hK12 _ _ _ ?_
          refine AW.region mixed [] [none, none, none, none, none] (by kernel_rfl) fun G26 R26 hG26 hR26 => ?_
          simp [m0, m1, n0, n1, n2, n3]
          refine ⟨hG26 _ (by kernel_rfl), hR26 _ _ _ ?_⟩
          refine hL9 (need + 1, a2, N + 2) _ _ _ ?_ ?_ ?_ ?_ ?_
          · simp; omega
          · simp; omega
          · simp
          · simp [n0, n1, n2, n3, wrap64 (show (-9223372036854775808 : Int) ≤ (need : Int) + 1 by omega) (by omega)]
          · simp
    · simp at h
      have hneed : need = KS.length + 1 := by omega
      have hv : validS 20 need KS = false := by rw [hval]; simp; omega
      refine AW.exit ?_
      simp
      refine hK7 _ _ _ ?_
      refine AW.seqR mixed [] [none, none, none, none, some (73, true), some (73, true), some (73, true), some (73, true), some (73, true), none, none, some (80, true), none, none] (by kernel_rfl) fun G27 R27 hG27 hR27 => ?_
      simp [m0, m1]
      refine aCall_p (p24 20 need false fK KS) (by simp) (by simp) ?_
      rw [hv]
      simp [m0, m1]
      refine aCall_p (p25 20 need false fK KS false fK KS) (by simp) (by simp) ?_
      rw [show enoughS 20 need KS KS = false by simp [enoughS, hv]]
      simp
      refine aCall_p p19 (by simp) (by simp) ?_
      simp
      refine ⟨hG27 _ (by kernel_rfl), hR27 _ _ _ ?_⟩
      refine AW.ret (hQ _ _ _ ?_).1
      simp [Try.f3]
end Go.Proofs.YtocmgnljgemjkaaT
