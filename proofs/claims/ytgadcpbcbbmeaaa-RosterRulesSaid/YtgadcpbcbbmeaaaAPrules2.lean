/- The laws RosterRules and RosterGenesis. -/
import Derived.Test.YtgadcpbcbbmeaaaAPrules
import Derived.Test.YtgadcpbcbbmeaaaAPsets
import Derived.Test.YtgadcpbcbbmeaaaAPrback
set_option linter.unusedVariables false
set_option linter.unusedSimpArgs false
namespace Go.TF
open Go Go.Abs

theorem RosterRules_ex (v0 v1 v2 v3 : List Int) (v4 v5 v6 v7 : Int) (h0 : Fit (.lst false false (v0.map (.int .i64)))) (h1 : Fit (.lst false false (v1.map (.int .i64)))) (h2 : Fit (.lst false false (v2.map (.int .i64))))
    (h3 : Fit (.lst false false (v3.map (.int .i64)))) : ∃ k, law24_RosterRules k v0 v1 v2 v3 v4 v5 v6 v7 = some true := by
  have a1 := h1.ints.1
  have a2 := h2.ints.1
  have a3 := h3.ints.1
  have am := maxLen_le
  rw [am] at a1 a2 a3
  obtain ⟨k, hk, l1, l2, l3⟩ : ∃ k, 1000 < k ∧ v1.length < k ∧ v2.length < k ∧ v3.length < k := ⟨v1.length + v2.length + v3.length + 1001, by omega, by omega, by omega, by omega⟩
  refine ⟨k, ?_⟩
  have aw := awake24' k (by omega)
  unfold law24_RosterRules
  rw [mLight_eq, bnd1_some]
  by_cases hb : (v0.length : Int) ≤ 400
  case neg => rw [if_pos (by simp [hb]), aw]; rfl
  rw [if_neg (by simp [hb])]
  split
  · rw [aw]; rfl
  have hl : v0.length ≤ 1000 := by omega
  obtain ⟨g, s, t, lv, se, sp, qu, q, e1, q1, G⟩ := Rules_eq k v0 0 hl ⟨by omega, by omega⟩
  obtain ⟨b1, b2, b3⟩ := G.lens
  rw [mRoll_eq, bnd2_some, e1]
  obtain ⟨g2, s2, t2, lv2, se2, sp2, qu2, q2, e2, q2', c1, c2, c3⟩ := Odd_eq k v0 q g s t lv se sp qu hl q1 b1 b2 b3
  obtain ⟨g3, s3, t3, lv3, se3, sp3, qu3, q3, e3, q3', d1, d2, d3⟩ := Odd_eq k v0 q2 g2 s2 t2 lv2 se2 sp2 qu2 hl q2' c1 c2 c3
  simp only [bnd8, e2, e3]
  rw [Check24_eq k g s t lv se sp qu (by omega) (by omega) (by omega) (by omega) (by omega) (by omega), bnd1_some, if_pos G.ok,
    Check24_eq k g2 s2 t2 lv2 se2 sp2 qu2 (by omega) (by omega) (by omega) (by omega) (by omega) (by omega), bnd1_some, refCheck24_eq k g2 s2 t2 lv2 se2 sp2 qu2 (by omega) (by omega) (by omega) (by omega) (by omega) (by omega), bnd1_some, if_pos rfl,
    Check24_eq k g3 s3 t3 lv3 se3 sp3 qu3 (by omega) (by omega) (by omega) (by omega) (by omega) (by omega), bnd1_some, refCheck24_eq k g3 s3 t3 lv3 se3 sp3 qu3 (by omega) (by omega) (by omega) (by omega) (by omega) (by omega), bnd1_some, if_pos rfl,
    Check24_eq k v1 v2 v3 v4 v5 v6 v7 (by omega) (by omega) (by omega) (by omega) (by omega) (by omega), bnd1_some, refCheck24_eq k v1 v2 v3 v4 v5 v6 v7 (by omega) (by omega) (by omega) (by omega) (by omega) (by omega), bnd1_some, if_pos rfl, aw]
  rfl

/-! ### every genesis that is a roster -/
theorem okR_last (l : List Int) : okR (l ++ [-1]) = false := by
  have : ¬ okR (l ++ [-1]) = true := by
    intro h
    simp only [okR, Bool.and_eq_true] at h
    have := asc_range h.2 (-1) (by simp)
    omega
  simpa using this
end Go.TF
