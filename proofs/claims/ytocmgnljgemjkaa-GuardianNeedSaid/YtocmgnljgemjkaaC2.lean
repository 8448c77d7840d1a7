/- Contracts: guardian. -/
import Derived.Test.YtocmgnljgemjkaaC1
set_option linter.unusedVariables false
set_option linter.unusedSimpArgs false
set_option maxRecDepth 100000
namespace Go.Proofs.YtocmgnljgemjkaaT
open Go Go.Abs Go.Proofs

def okAt (key : Int) (ks : List Int) (j : Nat) : Bool := keyS (ks.getD j 0) && !decide (ks.getD j 0 = key) && (decide (j = 0) || decide (ks.getD (j - 1) 0 < ks.getD j 0))
def validS (key need : Int) (ks : List Int) : Bool :=
  (List.range ks.length).all (okAt key ks) && keyS key && decide (1 ≤ ks.length) && decide (ks.length ≤ 12) && decide (1 ≤ need) && decide (need ≤ ks.length)

abbrev guardV (key need : Int) (nl fl : Bool) (ks : List Int) : AV := .agg [.int .i64 key, .int .i64 need, .lst nl fl (ints ks)]

theorem p24 (key need : Int) (nl fl : Bool) (ks : List Int) : PCall Try.prog 24 [guardV key need nl fl ks] (.bool (validS key need ks)) := by
  refine PCall.enter Try.func24 rfl (by simp) (by decide) (by simp) ?_
  intro c0 w0 Q hQ
  refine AW.seqR mixed [] [none, none] (by kernel_rfl) fun G1 R1 hG1 hR1 => ?_
  simp
  refine ⟨hG1 _ (by kernel_rfl), hR1 _ _ _ ?_⟩
  refine AW.seq fun K2 hK2 => ?_
  refine AW.seqR mixed [] [none, none, none, none] (by kernel_rfl) fun G3 R3 hG3 hR3 => ?_
  simp
  refine ⟨hG3 _ (by kernel_rfl), hR3 _ _ _ ?_⟩
  refine AW.lenFact 7 (by decide) rfl fun hmax => ?_
  simp [maxLen] at hmax
  refine AW.block ?_
  refine AW.loop (α := Nat) (fun i => i ≤ ks.length ∧ ∀ j, j < i → okAt key ks j = true) (fun i => ks.length - i) (fun i => [(1, .ptr 0 0), (7, .lst nl fl (ints ks)), (8, .int .i64 ks.length), (9, .int .i64 i)])
    (fun _ => [(0, .cells [.int .i64 key, .int .i64 need, .lst nl fl (ints ks)])]) (fun z => 1) 0 (by simp) (by simp) (by simp) (by simp) ?_
  intro z hz KL4 hL4
  refine AW.seqR mixed [] [none] (by kernel_rfl) fun G5 R5 hG5 hR5 => ?_
  simp
  refine ⟨hG5 _ (by kernel_rfl), hR5 _ _ _ ?_⟩
  refine AW.seq fun K6 hK6 => ?_
  refine AW.cond (by decide) _ rfl (fun h => ?_) (fun h => ?_)
  · simp at h
    refine AW.skip ?_
    refine hK6 _ _ _ ?_
    refine AW.seq fun K7 hK7 => ?_
    refine AW.block ?_
    refine AW.seqR mixed [] [none, none, none, none, none] (by kernel_rfl) fun G8 R8 hG8 hR8 => ?_
    simp [h]
    refine ⟨hG8 _ (by kernel_rfl), hR8 _ _ _ ?_⟩
    refine AW.seqR mixed [] [none, none, none, none, some (17, false), some (17, false), some (17, false), some (17, false), none, none, some (23, false), some (23, false), some (23, false), some (26, true), some (26, true), some (26, true), some (26, true), some (26, true), some (26, true), some (26, true), some (26, true), some (23, false), none] (by kernel_rfl) fun G9 R9 hG9 hR9 => ?_
    simp
    refine aCall_p (p73 _) (by simp) (by simp) ?_
    simp
    have done : ∀ (b : Bool) (s : Nat → AV), b = okAt key ks z → s 36 = .bool (!b) → s 1 = .ptr 0 0 → s 7 = .lst nl fl (ints ks) → s 8 = .int .i64 ks.length → s 9 = .int .i64 z →
        R9 s (mkH [(0, .cells [.int .i64 key, .int .i64 need, .lst nl fl (ints ks)])]) 1 := by
      intro b s hb h36 h1 h7 h8 h9
      refine hR9 _ _ _ ?_
      refine AW.cond (by decide) _ h36 (fun h => ?_) (fun h => ?_)
      · simp at h
        refine AW.seqR mixed [] [none] (by kernel_rfl) fun G10 R10 hG10 hR10 => ?_
        simp
        refine ⟨hG10 _ (by kernel_rfl), hR10 _ _ _ ?_⟩
        refine AW.ret (hQ _ _ _ ?_).1
        simp [Try.f24]
        have : (List.range ks.length).all (okAt key ks) = false := by
          rw [List.all_eq_false]
          exact ⟨z, by simpa using by omega, by rw [← hb]; simpa using h⟩
        simp [validS, this]
      · simp at h
        refine AW.skip ?_
        refine hK7 _ _ _ ?_
        refine AW.region mixed [] [none, none] (by kernel_rfl) fun G11 R11 hG11 hR11 => ?_
        simp [h9]
        refine ⟨hG11 _ (by kernel_rfl), hR11 _ _ _ ?_⟩
        refine hL4 (z + 1) _ _ _ ?_ ?_ ?_ ?_ ?_
        · refine ⟨by omega, fun j hj => ?_⟩
          by_cases e : j = z
          · rw [e, ← hb]; simpa using h
          · exact hz.2 j (by omega)
        · omega
        · simp [h1, h7, h8, wrap64 (show (-9223372036854775808 : Int) ≤ (z : Int) + 1 by omega) (by omega)]
        · simp
        · simp
    have hk : ks.getD z 0 = ks[z] := by simp [h]
    refine aops_split _ rfl (fun hc => ?_) (fun hc => ?_) <;> (try simp at hc) <;> simp
    · refine aops_split _ rfl (fun hd => ?_) (fun hd => ?_) <;> (try simp at hd) <;> simp
      · refine aops_split _ rfl (fun he => ?_) (fun he => ?_) <;> (try simp at he) <;> simp
        · have e1 : IntKind.i64.wrap ((z : Int) - 1) = ((z - 1 : Nat) : Int) := by rw [wrap64 (by omega) (by omega)]; omega
          have e2 : z - 1 < ks.length := by omega
          simp [e1, e2]
          refine ⟨hG9 _ (by kernel_rfl), done (okAt key ks z) _ rfl ?_ rfl rfl rfl rfl⟩
          have hk2 : ks.getD (z - 1) 0 = ks[z - 1] := by simp [e2]
          have : ¬ z = 0 := by omega
          simp [okAt, h, e2, hc, hd, this]
          by_cases hlt : ks[z - 1] < ks[z]
          · simp [hlt] <;> omega
          · simp [hlt] <;> omega
        · refine ⟨hG9 _ (by kernel_rfl), done (okAt key ks z) _ rfl ?_ rfl rfl rfl rfl⟩
          subst he
          simp [okAt, h, hc, hd]
      · refine ⟨hG9 _ (by kernel_rfl), done (okAt key ks z) _ rfl ?_ rfl rfl rfl rfl⟩
        simp [okAt, h, hd]
    · refine ⟨hG9 _ (by kernel_rfl), done (okAt key ks z) _ rfl ?_ rfl rfl rfl rfl⟩
      simp [okAt, h, hc]
  · simp at h
    refine AW.exit ?_
    simp
    refine hK2 _ _ _ ?_
    refine AW.seqR mixed [] [none, none, none, none] (by kernel_rfl) fun G12 R12 hG12 hR12 => ?_
    simp
    refine ⟨hG12 _ (by kernel_rfl), hR12 _ _ _ ?_⟩
    refine AW.seqR mixed [] [none, none, none, none, some (44, true), some (44, true), none, none, some (48, true), some (48, true), none, none, some (52, true), some (52, true), some (52, true), none, none, some (57, true), some (57, true), some (57, true), some (57, true), none, none] (by kernel_rfl) fun G13 R13 hG13 hR13 => ?_
    simp
    refine aCall_p (p73 _) (by simp) (by simp) ?_
    simp
    have hall : (List.range ks.length).all (okAt key ks) = true := by
      rw [List.all_eq_true]
      intro j hj
      exact hz.2 j (by simp at hj; omega)
    have done : ∀ (b : Bool) (s : Nat → AV) (H : Heap) (N : Nat), b = validS key need ks → s 2 = .bool b → R13 s H N := by
      intro b s H N hb h2
      refine hR13 _ _ _ (AW.ret (hQ _ _ _ ?_).1)
      simp [Try.f24, h2, hb]
    refine aops_split _ rfl (fun hc => ?_) (fun hc => ?_) <;> (try simp at hc) <;> simp
    · refine aops_split _ rfl (fun hd => ?_) (fun hd => ?_) <;> (try simp at hd) <;> simp
      · refine aops_split _ rfl (fun he => ?_) (fun he => ?_) <;> (try simp at he) <;> simp
        · refine aops_split _ rfl (fun hf => ?_) (fun hf => ?_) <;> (try simp at hf) <;> simp
          · refine ⟨hG13 _ (by kernel_rfl), done (validS key need ks) _ _ _ rfl ?_⟩
            simp [validS, hall, hc, hd, he, hf]
            omega
          · refine ⟨hG13 _ (by kernel_rfl), done (validS key need ks) _ _ _ rfl ?_⟩
            have : ¬ 1 ≤ need := by omega
            simp [validS, this]
        · refine ⟨hG13 _ (by kernel_rfl), done (validS key need ks) _ _ _ rfl ?_⟩
          have : ¬ ks.length ≤ 12 := by omega
          simp [validS, this]
      · refine ⟨hG13 _ (by kernel_rfl), done (validS key need ks) _ _ _ rfl ?_⟩
        have : ¬ 1 ≤ ks.length := by omega
        simp [validS, this]
    · refine ⟨hG13 _ (by kernel_rfl), done (validS key need ks) _ _ _ rfl ?_⟩
      simp [validS, hc]
end Go.Proofs.YtocmgnljgemjkaaT
