/- Contracts: guardian.Enough. -/
import Derived.Test.YtocmgnljgemjkaaC2
set_option linter.unusedVariables false
set_option linter.unusedSimpArgs false
set_option maxRecDepth 100000
namespace Go.Proofs.YtocmgnljgemjkaaT
open Go Go.Abs Go.Proofs

def countS (ks vs : List Int) : Nat := (ks.filter fun k => vs.contains k).length
def enoughS (key need : Int) (ks vs : List Int) : Bool := validS key need ks && decide (need ≤ countS ks vs)

theorem countS_le (ks vs : List Int) : countS ks vs ≤ ks.length := List.length_filter_le _ _
theorem countS_take (ks vs : List Int) (i : Nat) (h : i < ks.length) : countS (ks.take (i + 1)) vs = countS (ks.take i) vs + (if vs.contains ks[i] then 1 else 0) := by
  unfold countS
  rw [List.take_succ_eq_append_getElem h, List.filter_append, List.length_append]
  congr 1
  by_cases hc : vs.contains ks[i] = true
  · rw [List.filter_cons_of_pos hc, if_pos hc]; rfl
  · rw [List.filter_cons_of_neg hc, if_neg hc]; rfl

theorem p25 (key need : Int) (nl fl : Bool) (ks : List Int) (ml gl : Bool) (vs : List Int) : PCall Try.prog 25 [guardV key need nl fl ks, .lst ml gl (ints vs)] (.bool (enoughS key need ks vs)) := by
  refine PCall.enter Try.func25 rfl (by simp) (by decide) (by simp) ?_
  intro c0 w0 Q hQ
  refine AW.lenFact 1 (by decide) rfl fun hmv => ?_
  simp [maxLen] at hmv
  refine AW.seqR mixed [] [none, none] (by kernel_rfl) fun G1 R1 hG1 hR1 => ?_
  simp
  refine ⟨hG1 _ (by kernel_rfl), hR1 _ _ _ ?_⟩
  refine AW.scope ?_
  refine AW.seq fun K2 hK2 => ?_
  refine AW.seqR mixed [] [none, none, none] (by kernel_rfl) fun G3 R3 hG3 hR3 => ?_
  simp
  refine aCall_p (p24 key need nl fl ks) (by simp) (by simp) ?_
  simp
  refine ⟨hG3 _ (by kernel_rfl), hR3 _ _ _ ?_⟩
  refine AW.cond (by decide) _ rfl (fun h => ?_) (fun hv => ?_)
  · simp at h
    refine AW.seqR mixed [] [none] (by kernel_rfl) fun G4 R4 hG4 hR4 => ?_
    simp
    refine ⟨hG4 _ (by kernel_rfl), hR4 _ _ _ ?_⟩
    refine AW.ret (hQ _ _ _ ?_).1
    simp [Try.f25, enoughS, h]
  · simp at hv
    refine AW.skip ?_
    refine hK2 _ _ _ ?_
    refine AW.seqR mixed [] [none] (by kernel_rfl) fun G5 R5 hG5 hR5 => ?_
    simp
    refine ⟨hG5 _ (by kernel_rfl), hR5 _ _ _ ?_⟩
    refine AW.seq fun K6 hK6 => ?_
    refine AW.label ?_
    refine hK6 _ _ _ ?_
    refine AW.seq fun K7 hK7 => ?_
    refine AW.seqR mixed [] [none, none, none, none] (by kernel_rfl) fun G8 R8 hG8 hR8 => ?_
    simp
    refine ⟨hG8 _ (by kernel_rfl), hR8 _ _ _ ?_⟩
    refine AW.lenFact 14 (by decide) rfl fun hmk => ?_
    simp [maxLen] at hmk
    refine AW.block ?_
    refine AW.loop (α := Nat) (fun i => i ≤ ks.length) (fun i => ks.length - i)
      (fun i => [(1, .lst ml gl (ints vs)), (2, .ptr 0 0), (5, .int .i64 (countS (ks.take i) vs)), (14, .lst nl fl (ints ks)), (15, .int .i64 ks.length), (16, .int .i64 i)])
      (fun _ => [(0, .cells [.int .i64 key, .int .i64 need, .lst nl fl (ints ks)])]) (fun z => 1) 0 (by simp) (by simp [countS]) (by simp) (by simp) ?_
    intro i hi KL9 hL9
    refine AW.seqR mixed [] [none] (by kernel_rfl) fun G10 R10 hG10 hR10 => ?_
    simp
    refine ⟨hG10 _ (by kernel_rfl), hR10 _ _ _ ?_⟩
    refine AW.seq fun K11 hK11 => ?_
    refine AW.cond (by decide) _ rfl (fun h => ?_) (fun h => ?_)
    · simp at h
      have hcl : countS (ks.take i) vs ≤ i := by have := countS_le (ks.take i) vs; simp at this; omega
      refine AW.skip ?_
      refine hK11 _ _ _ ?_
      refine AW.midL (α := Unit) (fun _ => True) (fun _ => [(1, .lst ml gl (ints vs)), (2, .ptr 0 0), (5, .int .i64 (countS (ks.take (i + 1)) vs)), (14, .lst nl fl (ints ks)), (15, .int .i64 ks.length), (16, .int .i64 i)])
        (fun _ => [(0, .cells [.int .i64 key, .int .i64 need, .lst nl fl (ints ks)])]) (fun z => 1) (fun K12 hK12 => ?_) (fun z hz => ?_)
      · refine AW.block ?_
        refine AW.seqR mixed [] [none, none, none] (by kernel_rfl) fun G13 R13 hG13 hR13 => ?_
        simp [h]
        refine ⟨hG13 _ (by kernel_rfl), hR13 _ _ _ ?_⟩
        refine AW.seqR mixed [] [none, none, none] (by kernel_rfl) fun G14 R14 hG14 hR14 => ?_
        simp
        refine ⟨hG14 _ (by kernel_rfl), hR14 _ _ _ ?_⟩
        refine AW.block ?_
        refine AW.loop (α := Nat) (fun j => j ≤ vs.length ∧ ∀ m (hm : m < vs.length), m < j → vs[m] ≠ ks[i]) (fun j => vs.length - j)
          (fun j => [(1, .lst ml gl (ints vs)), (2, .ptr 0 0), (5, .int .i64 (countS (ks.take i) vs)), (7, .int .i64 ks[i]), (14, .lst nl fl (ints ks)), (15, .int .i64 ks.length), (16, .int .i64 i), (20, .lst ml gl (ints vs)), (21, .int .i64 vs.length), (22, .int .i64 j)])
          (fun _ => [(0, .cells [.int .i64 key, .int .i64 need, .lst nl fl (ints ks)])]) (fun z => 1) 0 (by simp) (by simp) (by simp) (by simp) ?_
        intro j hj KL15 hL15
        refine AW.seqR mixed [] [none] (by kernel_rfl) fun G16 R16 hG16 hR16 => ?_
        simp
        refine ⟨hG16 _ (by kernel_rfl), hR16 _ _ _ ?_⟩
        refine AW.seq fun K17 hK17 => ?_
        refine AW.cond (by decide) _ rfl (fun h2 => ?_) (fun h2 => ?_)
        · simp at h2
          refine AW.skip ?_
          refine hK17 _ _ _ ?_
          refine AW.seq fun K18 hK18 => ?_
          refine AW.block ?_
          refine AW.seqR mixed [] [none, none, none] (by kernel_rfl) fun G19 R19 hG19 hR19 => ?_
          simp [h2]
          refine ⟨hG19 _ (by kernel_rfl), hR19 _ _ _ ?_⟩
          refine AW.seqR mixed [] [none, none, none] (by kernel_rfl) fun G20 R20 hG20 hR20 => ?_
          simp
          refine ⟨hG20 _ (by kernel_rfl), hR20 _ _ _ ?_⟩
          refine AW.cond (by decide) _ rfl (fun h3 => ?_) (fun h3 => ?_)
          · simp at h3
            refine AW.seqR mixed [] [none, none, none] (by kernel_rfl) fun G21 R21 hG21 hR21 => ?_
            simp
            refine ⟨hG21 _ (by kernel_rfl), hR21 _ _ _ ?_⟩
            refine AW.exit ?_
            simp
            refine hK12 () _ _ _ trivial ?_ ?_ ?_
            · have : vs.contains ks[i] = true := by rw [← h3]; simp
              rw [countS_take ks vs i h, if_pos this]
              simp [wrap64 (show (-9223372036854775808 : Int) ≤ (countS (ks.take i) vs : Int) + 1 by omega) (by omega)]
            · simp
            · simp
          · simp at h3
            refine AW.skip ?_
            refine hK18 _ _ _ ?_
            refine AW.region mixed [] [none, none] (by kernel_rfl) fun G22 R22 hG22 hR22 => ?_
            simp
            refine ⟨hG22 _ (by kernel_rfl), hR22 _ _ _ ?_⟩
            refine hL15 (j + 1) _ _ _ ?_ ?_ ?_ ?_ ?_
            · refine ⟨by omega, fun m hm hmj => ?_⟩
              by_cases e : m = j
              · subst e; exact h3
              · exact hj.2 m hm (by omega)
            · omega
            · simp [wrap64 (show (-9223372036854775808 : Int) ≤ (j : Int) + 1 by omega) (by omega)]
            · simp
            · simp
        · simp at h2
          refine AW.exit ?_
          simp
          refine hK12 () _ _ _ trivial ?_ ?_ ?_
          · have : ¬ vs.contains ks[i] = true := by
              simp
              intro hm
              obtain ⟨m, hm, e⟩ := List.getElem_of_mem hm
              exact hj.2 m hm (by omega) e
            rw [countS_take ks vs i h, if_neg this]
            simp
          · simp
          · simp
      · refine AW.region mixed [] [none, none] (by kernel_rfl) fun G23 R23 hG23 hR23 => ?_
        simp
        refine ⟨hG23 _ (by kernel_rfl), hR23 _ _ _ ?_⟩
        refine hL9 (i + 1) _ _ _ ?_ ?_ ?_ ?_ ?_
        · omega
        · omega
        · simp [wrap64 (show (-9223372036854775808 : Int) ≤ (i : Int) + 1 by omega) (by omega)]
        · simp
        · simp
    · simp at h
      refine AW.exit ?_
      simp
      refine hK7 _ _ _ ?_
      refine AW.seqR mixed [] [none, none, none, none, none] (by kernel_rfl) fun G24 R24 hG24 hR24 => ?_
      simp
      refine ⟨hG24 _ (by kernel_rfl), hR24 _ _ _ ?_⟩
      refine AW.ret (hQ _ _ _ ?_).1
      have : ks.take i = ks := List.take_of_length_le h
      simp [Try.f25, enoughS, hv, this]
end Go.Proofs.YtocmgnljgemjkaaT
