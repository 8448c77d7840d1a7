/- The laws RosterRules and RosterGenesis. -/
import Derived.Test.YtepdfenlkeaefaaCPrules
import Derived.Test.YtepdfenlkeaefaaCPsets
import Derived.Test.YtepdfenlkeaefaaCPrback
set_option linter.unusedVariables false
set_option linter.unusedSimpArgs false
namespace Go.TF
open Go Go.Abs

/-! ### every genesis that is a roster -/
theorem gen_loop (A : Nat) (hA : A < 2 ^ 64) (s t : List Int) (lv se sp qu : Int) (g0 : List Int) : ∀ (m i n : Nat) (acc : List Int), i + m = 64 → m < n → acc.length ≤ i →
    law24_RosterGenesis.L1 1000 (A : Int) s t lv se sp qu n (i : Int) acc = law24_RosterGenesis.L1 1000 (A : Int) s t lv se sp qu 1 64 (acc ++ selF (bitN A) m i)
  | 0, i, n + 1, acc, h, _, _ => by
    obtain rfl : i = 64 := by omega
    rw [selF, List.append_nil, law24_RosterGenesis.L1, law24_RosterGenesis.L1]
    rfl
  | m + 1, i, n + 1, acc, h, hn, hl => by
    have hu : IntKind.wrap .u64 (i : Int) = i := wu64 (by omega) (by omega)
    rw [law24_RosterGenesis.L1, if_pos (by omega), chk_pos (by rw [hu]; omega), selF]
    by_cases a : bitN A i = true
    · rw [if_pos ((ubit1 A hA i (by omega)).2 a), chk_pos (by simp; omega), if_pos a]
      unfold law24_RosterGenesis.J2
      rw [succ64 i (by omega)]; dsimp only; rw [gen_loop A hA s t lv se sp qu g0 m (i + 1) n _ (by omega) (by omega) (by simp; omega), List.append_assoc]
      rfl
    · rw [if_neg (fun h => a ((ubit1 A hA i (by omega)).1 h)), if_neg a]
      unfold law24_RosterGenesis.J2
      rw [succ64 i (by omega)]; dsimp only; rw [gen_loop A hA s t lv se sp qu g0 m (i + 1) n _ (by omega) (by omega) (by omega)]
theorem okR_last (l : List Int) : okR (l ++ [-1]) = false := by
  have : ¬ okR (l ++ [-1]) = true := by
    intro h
    simp only [okR, Bool.and_eq_true] at h
    have := asc_range h.2 (-1) (by simp)
    omega
  simpa using this
theorem Rules_o (k : Nat) (l : List Int) (p : Int) : mill_Rules_o k l p = mill_Rules k l p := rfl
theorem RosterGenesis_true (v0 : List Int) (v1 : Int) (h0 : Fit (.lst false false (v0.map (.int .i64)))) (h1 : Fit (.int .u64 v1)) : law24_RosterGenesis 1000 v0 v1 = some true := by
  have hv : 0 ≤ v1 ∧ v1 ≤ 18446744073709551615 := by simpa [Fit, InR, IntKind.min, IntKind.max, IntKind.bits, IntKind.signed] using h1
  obtain ⟨A, rfl⟩ := Int.eq_ofNat_of_zero_le hv.1
  have hA : A < 2 ^ 64 := by omega
  unfold law24_RosterGenesis
  rw [mLight_eq, bnd1_some]
  by_cases hb : (v0.length : Int) ≤ 400
  case neg => rw [if_pos (by simp [hb]), awake24]; rfl
  rw [if_neg (by simp [hb])]
  have hl : v0.length ≤ 1000 := by omega
  obtain ⟨g, s, t, lv, se, sp, qu, q, e1, q1, G⟩ := Rules_eq 1000 v0 0 hl ⟨by omega, by omega⟩
  obtain ⟨b1, b2, b3⟩ := G.lens
  rw [mRoll_eq, bnd2_some, Rules_o, e1]
  simp only [bnd8]
  have := gen_loop A hA s t lv se sp qu g 64 0 1000 [] (by omega) (by omega) (by simp)
  rw [show (0 : Int) = ((0 : Nat) : Int) from rfl, this, List.nil_append]
  have hsl := sel_len (bitN A)
  change law24_RosterGenesis.L1 1000 (A : Int) s t lv se sp qu 1 64 (sel (bitN A)) = some true
  rw [law24_RosterGenesis.L1, if_neg (by omega), chk_pos (by omega), chk_pos (by simp; omega),
    Check24_eq 1000 _ s t lv se sp qu (by omega) (by omega) (by omega) (by omega) (by omega) (by omega), bnd1_some]
  have hG := G.ok
  have hr : ruleE (sel (bitN A)) s t lv se sp qu = if A = 0 then 43 else 0 := by
    unfold ruleE at hG ⊢
    by_cases hn : A = 0
    · subst hn
      have e : sel (bitN 0) = [] := by
        refine List.eq_nil_iff_forall_not_mem.2 fun x hx => ?_
        have := (mem_sel.1 hx).2.2
        simp [bitN] at this
      rw [e, if_neg (by simp [okR]), if_pos rfl]
    · rw [if_pos (okR_sel _ (sel_ne A hA hn)), if_neg hn]
      split at hG
      · exact hG
      · omega
  rw [hr, if_pos, Check24_eq 1000 _ s t lv 0 sp qu (by simp; omega) (by omega) (by omega) (by simp; omega) (by omega) (by omega), bnd1_some]
  · have e43 : ruleE (sel (bitN A) ++ [-1]) s t lv 0 sp qu = 43 := by unfold ruleE; rw [okR_last]; rfl
    rw [e43, if_pos rfl, awake24]; rfl
  · by_cases hn : A = 0
    · subst hn; rfl
    · rw [if_neg hn]
      have : ¬ (A : Int) = 0 := by omega
      simp [hn, this]
end Go.TF
