/- The laws of layer 23. -/
import Derived.Test.YteclncnknklkfaaGaPcord
set_option linter.unusedVariables false
set_option linter.unusedSimpArgs false
namespace Go.TF
open Go Go.Abs
theorem cb3 {β : Type} (a : List Int) (b : List api_Pin) (c : Int) (f : List Int → List api_Pin → Int → Option β) : bnd3 (some (a, b, c)) f = f a b c := rfl
theorem ofC_some (k : Nat) (author num : Int) (prev : ByteArray) (time kind A B C : Int) (l : List Int) (pins : List api_Pin) (body : ByteArray) (hk : 0 < k) (hl : l.length < k) (hp : pins.length < k) (hl9 : l.length ≤ 9223372036854775807) (hp9 : pins.length ≤ 9223372036854775807) :
 ∃ a b c d e x p r, ofC author num prev time kind A B C l pins body = (a, b, c, d, e, x, p, r) ∧ x.length < k ∧ p.length < k ∧ x.length ≤ 9223372036854775807 ∧ p.length ≤ 9223372036854775807 := by
 unfold ofC
 split
 ·split
  ·exact ⟨_, _, _, _, _, _, _, _, rfl, hl, hp, hl9, hp9⟩
  ·exact ⟨_, _, _, _, _, _, _, _, rfl, by simpa using hk, by simpa using hk, by simp, by simp⟩
 ·exact ⟨_, _, _, _, _, _, _, _, rfl, by simpa using hk, by simpa using hk, by simp, by simp⟩
theorem draftC_some (k : Nat) (e d s r : Int) (l : List Int) (p : List api_Pin) (hk : 100 < k) : ∃ a b c f x y z, draftC e d s r l p = (a, b, c, f, x, y, z) ∧ x.length < k ∧ y.length < k ∧ x.length ≤ 9223372036854775807 ∧ y.length ≤ 9223372036854775807 := by
 unfold draftC
 split
 ·split
  ·rename_i h
   have := right_all h
   exact ⟨_, _, _, _, _, _, _, rfl, by omega, by omega, by omega, by omega⟩
  ·exact ⟨_, _, _, _, _, _, _, rfl, by simp; omega, by simp; omega, by simp, by simp⟩
 ·exact ⟨_, _, _, _, _, _, _, rfl, by simp; omega, by simp; omega, by simp, by simp⟩
theorem CasesForged_ex (v0 : List Int) (v1 : Int) (h0 : Fit (.lst false false (v0.map (.int .i64)))) (h1 : Fit (.int .u8 v1)) : ∃ k, law23_CasesForged k v0 v1 = some true := by
 have hv1 := InR.u8 (by simpa [Fit] using h1)
 obtain ⟨k, hk⟩ : ∃ k, 10000 < k := ⟨20000, by omega⟩
 refine ⟨k, ?_⟩
 have aw := awake23 k hk
 unfold law23_CasesForged mill_Light mill_Roll
 rw [bnd1_some]
 by_cases a0 : ¬ (v0.length : Int) ≤ 400
 ·rw [if_pos (by simp; omega), aw]; rfl
 rw [if_neg (by simp; omega), Roll_eq, bnd2_some, bnd2_some]
 obtain ⟨d, s, r, p2, e2, q2, gc⟩ := Case_eq k v0 0 0 (by omega) (by decide)
 obtain ⟨au, p3, e3, q3, m3⟩ := Next_eq k v0 p2 5 (by omega) q2
 have m3 := m3 (by omega) (by omega)
 obtain ⟨x, y, p5, e5, q5, gx⟩ := Content_eq k v0 p3 0 d s r (by omega) q3
 have hr := good_right (e := 0) gc (by omega) (by omega) gx
 have lx := gx.len
 rw [e2, cb5, e3, bnd2_some, e5, cb3, mVote_eq k hk hr, bnd1_some]
 have hof := of_vote hr (author := au) (num := 0) (time := 1) (by omega) (by omega) (by omega)
 have kv : IntKind.wrap .i64 v1 = v1 := w64 (by omega) (by omega)
 have ka : Int.tmod v1 8 = v1 % 8 := Int.tmod_eq_emod_of_nonneg (by omega)
 have lp := (pinC_parts (right_all hr).2.1).2.2
 have hs : SizeS (prvB 0) x y (ByteArray.mk #[]) := ⟨prvB_le 0, by omega, by omega, lp, Nat.zero_le _⟩
 unfold stS
 simp only
 rw [cOf_eq k _ _ _ _ _ _ _ _ _ _ _ _ _ (by omega) (by omega) (by omega), hof, cb8, cOf_eq k _ _ _ _ _ _ _ _ _ _ _ _ _ (by omega) (by omega) (by omega), hof, cb8, if_pos rfl, if_pos rfl, kv, ka, w64 (n := 8 + v1 % 8) (by omega) (by omega), Sealed_r k hk _ _ _ _ _ _ _ _ _ _ _ _ _ hs, bnd1_some,
  if_pos (by unfold sealB; rw [show decide (8 + v1 % 8 = au) = false from decide_eq_false (by omega)]; rfl), if_pos rfl, let1_eq, if_pos (by simp), cOrder_eq k (by omega) _ _ _ _ (by omega) (by omega) (by omega) (by omega), ordC_self, bnd1_some, if_pos rfl, aw]
 rfl
end Go.TF
