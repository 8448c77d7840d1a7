/- The plain law of GuardianNeed; Light, Has. -/
import Derived.Test.YtocmgnljgemjkaaC5
set_option linter.unusedVariables false
set_option linter.unusedSimpArgs false
set_option maxRecDepth 100000
namespace Go.Proofs.YtocmgnljgemjkaaT
open Go Go.Abs Go.Proofs

theorem p18 (nl fl : Bool) (xs : List AV) : PCall Try.prog 18 [.lst nl fl xs] (.bool (decide (xs.length ≤ 400))) := by
  refine PCall.enter Try.func18 rfl (by simp) (by decide) (by simp) ?_
  intro c0 w0 Q hQ
  refine AW.seqR mixed [] [none] (by kernel_rfl) fun G K hG hK => ?_
  simp
  refine ⟨hG _ (by kernel_rfl), hK _ _ _ ?_⟩
  refine AW.seqR mixed [] [none, none, none, none] (by kernel_rfl) fun G K hG hK => ?_
  simp
  refine ⟨hG _ (by kernel_rfl), hK _ _ _ (AW.ret (hQ _ _ _ ?_).1)⟩
  simp [Try.f18]
  omega

theorem p23 (nl fl : Bool) (xs : List Int) (k : Int) : PCall Try.prog 23 [.lst nl fl (ints xs), .int .i64 k] (.bool (xs.contains k)) := by
  refine PCall.enter Try.func23 rfl (by simp) (by decide) (by simp) ?_
  intro c0 w0 Q hQ
  refine AW.seqR mixed [] [none] (by kernel_rfl) fun G K hG hK => ?_
  simp
  refine ⟨hG _ (by kernel_rfl), hK _ _ _ ?_⟩
  refine AW.seq fun K hK => ?_
  refine AW.seqR mixed [] [none] (by kernel_rfl) fun G K1 hG hK1 => ?_
  simp
  refine ⟨hG _ (by kernel_rfl), hK1 _ _ _ ?_⟩
  refine AW.lenFact 0 (by decide) rfl fun hmax => ?_
  simp [maxLen] at hmax
  refine AW.block ?_
  refine AW.loop (α := Nat) (fun i => i ≤ xs.length ∧ ∀ j (h : j < xs.length), j < i → xs[j] ≠ k) (fun i => xs.length - i) (fun i => [(0, .lst nl fl (ints xs)), (1, .int .i64 k), (5, .int .i64 i)]) (fun _ => []) (fun _ => 0) 0 (by simp) (by simp) (by simp) (by simp) ?_
  intro i ⟨hi, hno⟩ KL hKL
  refine AW.seq fun K2 hK2 => ?_
  refine AW.seqR mixed [] [none, none, none, none] (by kernel_rfl) fun G K1 hG hK1 => ?_
  simp
  refine ⟨hG _ (by kernel_rfl), hK1 _ _ _ ?_⟩
  refine AW.cond (by decide) _ rfl (fun h => ?_) (fun h => ?_)
  · simp at h
    refine AW.skip (hK2 _ _ _ ?_)
    refine AW.seq fun K3 hK3 => AW.block ?_
    refine AW.seqR mixed [] [none, none, none, none, none, none] (by kernel_rfl) fun G K4 hG hK4 => ?_
    simp [h]
    refine ⟨hG _ (by kernel_rfl), hK4 _ _ _ ?_⟩
    refine AW.cond (by decide) _ rfl (fun h => ?_) (fun h => ?_)
    · simp at h
      refine AW.seqR mixed [] [none] (by kernel_rfl) fun G K5 hG hK5 => ?_
      simp
      refine ⟨hG _ (by kernel_rfl), hK5 _ _ _ (AW.ret (hQ _ _ _ ?_).1)⟩
      simp [Try.f23]
      subst h; simp
    · simp at h
      refine AW.skip (hK3 _ _ _ ?_)
      refine AW.region mixed [] [none, none, none] (by kernel_rfl) fun G K5 hG hK5 => ?_
      simp
      refine ⟨hG _ (by kernel_rfl), hK5 _ _ _ (hKL (i + 1) _ _ _ ?_ ?_ ?_ ?_ ?_)⟩
      · refine ⟨by omega, fun j hj hji => ?_⟩
        by_cases e : j = i
        · subst e; exact h
        · exact hno j hj (by omega)
      · omega
      · simp [wrap64 (show (-9223372036854775808 : Int) ≤ i + 1 by omega) (by omega)]
      · simp
      · simp
  · simp at h
    refine AW.exit ?_
    simp
    refine hK _ _ _ ?_
    refine AW.seqR mixed [] [none] (by kernel_rfl) fun G K5 hG hK5 => ?_
    simp
    refine ⟨hG _ (by kernel_rfl), hK5 _ _ _ (AW.ret (hQ _ _ _ ?_).1)⟩
    simp [Try.f23]
    intro hm
    obtain ⟨j, hj, e⟩ := List.getElem_of_mem hm
    exact hno j hj (by omega) e

/-! ### plain facts -/
theorem someR_mem (ts : List Int) (a : Nat) : ∀ k x, x ∈ (someR ts a k).1 → 0 ≤ x ∧ x < k
  | 0, x, h => by simp [someR] at h
  | k + 1, x, h => by
    have ih := someR_mem ts a k x
    simp only [someR] at h
    split at h
    · rcases List.mem_append.1 h with h | h
      · have := ih h; omega
      · simp at h; omega
    · have := ih h; omega

theorem someR_sorted (ts : List Int) (a : Nat) : ∀ k, (someR ts a k).1.Pairwise (· < ·)
  | 0 => by simp [someR]
  | k + 1 => by
    have ih := someR_sorted ts a k
    simp only [someR]
    split
    · rw [List.pairwise_append]
      refine ⟨ih, by simp, fun x hx y hy => ?_⟩
      have := someR_mem ts a k x hx
      simp at hy; omega
    · exact ih

theorem drawS_range (ts : List Int) (a : Nat) (n : Int) (hn : 1 ≤ n) : 0 ≤ drawS ts a n ∧ drawS ts a n < n := by
  unfold drawS
  split
  · have h1 : ¬ n < 1 := by omega
    rw [if_neg h1]
    exact ⟨Int.emod_nonneg _ (by omega), Int.emod_lt_of_pos _ (by omega)⟩
  · omega

theorem keysR_mem (ts : List Int) (x : Int) (h : x ∈ (keysR ts 0 12).1) : 0 ≤ x ∧ x < 12 := by
  unfold keysR at h
  split at h
  · simp at h; subst h; exact drawS_range ts _ 12 (by omega)
  · have := someR_mem ts 0 _ x h; simpa using this
theorem keysR_sorted (ts : List Int) : (keysR ts 0 12).1.Pairwise (· < ·) := by
  unfold keysR
  split
  · simp
  · exact someR_sorted ts 0 _
theorem keysR_len (ts : List Int) : 1 ≤ (keysR ts 0 12).1.length ∧ (keysR ts 0 12).1.length ≤ 12 := by
  unfold keysR
  split
  · simp
  · rename_i h
    have := someR_len ts 0 12
    have e : (12 : Int).toNat = 12 := rfl
    rw [e] at h ⊢
    omega

theorem keys_ok (ts : List Int) (j : Nat) (hj : j < (keysR ts 0 12).1.length) : okAt 20 (keysR ts 0 12).1 j = true := by
  have h1 := keysR_mem ts _ (List.getElem_mem hj)
  simp only [okAt, List.getD_eq_getElem?_getD, List.getElem?_eq_getElem hj, Option.getD_some, keyS, Bool.and_eq_true, decide_eq_true_eq, Bool.not_eq_true', decide_eq_false_iff_not, Bool.or_eq_true]
  refine ⟨⟨⟨h1.1, by omega⟩, by omega⟩, ?_⟩
  by_cases e : j = 0
  · exact .inl e
  · right
    have hj' : j - 1 < (keysR ts 0 12).1.length := by omega
    rw [List.getElem?_eq_getElem hj', Option.getD_some]
    exact List.pairwise_iff_getElem.1 (keysR_sorted ts) (j - 1) j hj' hj (by omega)

theorem keys_valid (ts : List Int) (need : Int) : validS 20 need (keysR ts 0 12).1 = (decide (1 ≤ need) && decide (need ≤ (keysR ts 0 12).1.length)) := by
  have h1 : (List.range (keysR ts 0 12).1.length).all (okAt 20 (keysR ts 0 12).1) = true := by
    rw [List.all_eq_true]; intro j hj; exact keys_ok ts j (by simpa using hj)
  have h2 := keysR_len ts
  have h3 : keyS 20 = true := by decide
  simp [validS, h1, h2.1, h2.2, h3]

def sumC (A B : List Int) : Nat := (A.map fun x => B.count x).sum
theorem sumC_cons (A : List Int) (y : Int) : ∀ B, sumC A (y :: B) = A.count y + sumC A B := by
  intro B
  induction A with
  | nil => simp [sumC]
  | cons x A ih =>
    simp only [sumC, List.map_cons, List.sum_cons] at ih ⊢
    rw [ih, List.count_cons, List.count_cons]
    by_cases e : x = y
    · subst e; simp; omega
    · have e' : ¬ y = x := fun h => e h.symm
      simp [e, e']; omega
theorem sumC_comm (A B : List Int) : sumC A B = sumC B A := by
  induction B with
  | nil =>
    have : ∀ l : List Int, (l.map fun _ => 0).sum = 0 := by
      intro l
      induction l with
      | nil => rfl
      | cons x l ih => simpa using ih
    simp [sumC, this]
  | cons y B ih =>
    rw [sumC_cons, ih]; simp [sumC]
theorem countS_sum (A B : List Int) (hB : B.Nodup) : countS A B = sumC A B := by
  induction A with
  | nil => rfl
  | cons x A ih =>
    simp only [countS, sumC, List.map_cons, List.sum_cons, List.filter_cons, List.contains_eq_mem] at ih ⊢
    by_cases h : x ∈ B
    · have : B.count x = 1 := by
        have h1 := List.nodup_iff_count.1 hB x
        have h2 := List.count_pos_iff.2 h
        omega
      simp [h, this]; omega
    · have : B.count x = 0 := List.count_eq_zero.2 h
      simp [h, this]; omega
theorem sorted_nodup {l : List Int} (h : l.Pairwise (· < ·)) : l.Nodup := h.imp (fun h => by omega)
theorem countS_comm (ts ts' : List Int) (a k : Nat) : countS (keysR ts 0 12).1 (someR ts' a k).1 = countS (someR ts' a k).1 (keysR ts 0 12).1 := by
  rw [countS_sum _ _ (sorted_nodup (someR_sorted _ _ _)), countS_sum _ _ (sorted_nodup (keysR_sorted _)), sumC_comm]
theorem countS_twice (A B : List Int) : countS A (B ++ B) = countS A B := by simp [countS]
end Go.Proofs.YtocmgnljgemjkaaT
