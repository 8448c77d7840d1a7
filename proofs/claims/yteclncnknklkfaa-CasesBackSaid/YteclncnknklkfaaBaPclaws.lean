/- The laws of layer 23. -/
import Derived.Test.YteclncnknklkfaaBaPcord
set_option linter.unusedVariables false
set_option linter.unusedSimpArgs false
namespace Go.TF
open Go Go.Abs
theorem cb3 {β : Type} (a : List Int) (b : List api_Pin) (c : Int) (f : List Int → List api_Pin → Int → Option β) : bnd3 (some (a, b, c)) f = f a b c := rfl
theorem ofC_some (k : Nat) (author num : Int) (prev : ByteArray) (time kind A B C : Int) (l : List Int) (pins : List api_Pin) (body : ByteArray) (hk : 0 < k) (hl : l.length < k) (hp : pins.length < k) (hl9 : l.length ≤ 9223372036854775807) (hp9 : pins.length ≤ 9223372036854775807) :
 ∃ a b c d e x p r, ofC author num prev time kind A B C l pins body = (a, b, c, d, e, x, p, r) ∧ x.length < k ∧ p.length < k ∧ x.length ≤ 9223372036854775807 ∧ p.length ≤ 9223372036854775807 := by
 unfold ofC
 split
 ·split
  ·exact ⟨_, _, _, _, _, _, _, _, rfl, hl, hp, hl9, hp9⟩
  ·exact ⟨_, _, _, _, _, _, _, _, rfl, by simpa using hk, by simpa using hk, by simp, by simp⟩
 ·exact ⟨_, _, _, _, _, _, _, _, rfl, by simpa using hk, by simpa using hk, by simp, by simp⟩
theorem draftC_some (k : Nat) (e d s r : Int) (l : List Int) (p : List api_Pin) (hk : 100 < k) : ∃ a b c f x y z, draftC e d s r l p = (a, b, c, f, x, y, z) ∧ x.length < k ∧ y.length < k ∧ x.length ≤ 9223372036854775807 ∧ y.length ≤ 9223372036854775807 := by
 unfold draftC
 split
 ·split
  ·rename_i h
   have := right_all h
   exact ⟨_, _, _, _, _, _, _, rfl, by omega, by omega, by omega, by omega⟩
  ·exact ⟨_, _, _, _, _, _, _, rfl, by simp; omega, by simp; omega, by simp, by simp⟩
 ·exact ⟨_, _, _, _, _, _, _, rfl, by simp; omega, by simp; omega, by simp, by simp⟩
theorem CasesBack_ex (v0 : List Int) (v1 : Int) (h0 : Fit (.lst false false (v0.map (.int .i64)))) (h1 : Fit (.int .u8 v1)) : ∃ k, law23_CasesBack k v0 v1 = some true := by
 have hv1 := InR.u8 (by simpa [Fit] using h1)
 obtain ⟨k, hk⟩ : ∃ k, 10000 < k := ⟨20000, by omega⟩
 refine ⟨k, ?_⟩
 have aw := awake23 k hk
 unfold law23_CasesBack mill_Light mill_Roll
 rw [bnd1_some]
 by_cases a0 : ¬ (v0.length : Int) ≤ 400
 ·rw [if_pos (by simp; omega), aw]; rfl
 rw [if_neg (by simp; omega), Roll_eq, bnd2_some, bnd2_some]
 obtain ⟨ep, p1, e1, q1, m1⟩ := Next_eq k v0 0 40 (by omega) (by decide)
 have m1 := m1 (by omega) (by omega)
 obtain ⟨d, s, r, p2, e2, q2, gc⟩ := Case_eq k v0 p1 ep (by omega) q1
 obtain ⟨x, y, p3, e3, q3, gx⟩ := Content_eq k v0 p2 ep d s r (by omega) q2
 obtain ⟨d2, s2, r2, p4, e4, q4, gc2⟩ := Case_eq k v0 p3 ep (by omega) q3
 have lx := gx.len
 have hr := good_right gc m1.1 m1.2 gx
 have ho := (right_all hr).1
 have ho2 := good_ok gc2 m1.1 m1.2
 have kv : IntKind.wrap .i64 v1 = v1 := w64 (by omega) (by omega)
 have ka : Int.tmod v1 64 = v1 % 64 := Int.tmod_eq_emod_of_nonneg (by omega)
 have hd : draftC ep d s r x y = (10, ep, d + 16 * r, s, x, y, 0) := by unfold draftC; rw [if_pos ho, if_pos hr]
 have lp := (pinC_parts (right_all hr).2.1).2.2
 rw [e1, bnd2_some, e2, cb5, e3, cb3, cDraft_eq k _ _ _ _ _ _ (by omega) (by omega) (by omega), hd, cb7, kv, ka, mStat_eq k hk _ _ _ _ _ _ _ _ _ (by omega) (by omega) lp, bnd1_some]
 have hs : SizeS (prvB 1) x y (ByteArray.mk #[]) := ⟨prvB_le 1, by omega, by omega, lp, Nat.zero_le _⟩
 have key : ∀ b : Bool, b = decide (d2 = d ∧ r2 = r) → law23_CasesBack.J1 k v1 ep d s r x y 0 (stS (v1 % 64) 1 7 10 ep (d + 16 * r) s x y) (v1 % 64) ep d s r x y 0 ep d2 s2 r2 b = some true := by
  intro b hb
  unfold law23_CasesBack.J1 stS
  simp only
  rw [if_pos trivial, if_pos trivial, Sealed_r k hk _ _ _ _ _ _ _ _ _ _ _ _ _ hs, bnd1_some, if_pos (by unfold sealB digS; rw [strEq_self]; simp), kv, ka, if_pos rfl, let1_eq, if_pos (by simp), cOrder_eq k (by omega) _ _ _ _ (by omega) (by omega) (by omega) (by omega), ordC_self, bnd1_some, if_pos rfl,
   cCode_eq, cCode_eq, bnd1_some, bnd1_some]
  unfold codeC
  rw [if_pos ho, if_pos ho2]
  have : ((d2 + 16 * r2 == d + 16 * r) == b) = true := by
   subst hb
   have g1 := okC_iff ho
   have g2 := okC_iff ho2
   rw [beq_iff_eq, Bool.eq_iff_iff, beq_iff_eq, decide_eq_true_eq]
   omega
  rw [if_pos this, cRight_eq k _ _ _ _ _ _ (by omega) (by omega) (by omega), hr, bnd1_some, if_pos rfl, aw]; rfl
 have hof := of_vote hr (author := v1 % 64) (num := 1) (time := 7) (by omega) (by omega) (by omega)
 unfold stS at key ⊢
 simp only at key ⊢
 rw [cOf_eq k _ _ _ _ _ _ _ _ _ _ _ _ _ (by omega) (by omega) (by omega), hof, cb8, e4, cb5]
 by_cases c : d2 = d
 ·rw [if_pos c]
  refine key _ ?_
  by_cases c2 : r2 = r <;> simp [c, c2]
 ·rw [if_neg c]
  refine key _ ?_
  simp [c]
end Go.TF
