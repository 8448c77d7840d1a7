/- The laws of layer 23. -/
import Derived.Test.YteclncnknklkfaaVPcord
set_option linter.unusedVariables false
set_option linter.unusedSimpArgs false
namespace Go.TF
open Go Go.Abs
theorem cb3 {β : Type} (a : List Int) (b : List api_Pin) (c : Int) (f : List Int → List api_Pin → Int → Option β) : bnd3 (some (a, b, c)) f = f a b c := rfl
theorem ofC_some (k : Nat) (author num : Int) (prev : ByteArray) (time kind A B C : Int) (l : List Int) (pins : List api_Pin) (body : ByteArray) (hk : 0 < k) (hl : l.length < k) (hp : pins.length < k) (hl9 : l.length ≤ 9223372036854775807) (hp9 : pins.length ≤ 9223372036854775807) :
 ∃ a b c d e x p r, ofC author num prev time kind A B C l pins body = (a, b, c, d, e, x, p, r) ∧ x.length < k ∧ p.length < k ∧ x.length ≤ 9223372036854775807 ∧ p.length ≤ 9223372036854775807 := by
 unfold ofC
 split
 ·split
  ·exact ⟨_, _, _, _, _, _, _, _, rfl, hl, hp, hl9, hp9⟩
  ·exact ⟨_, _, _, _, _, _, _, _, rfl, by simpa using hk, by simpa using hk, by simp, by simp⟩
 ·exact ⟨_, _, _, _, _, _, _, _, rfl, by simpa using hk, by simpa using hk, by simp, by simp⟩
theorem votes_L2 (k : Nat) (hk : 10000 < k) (v1 v2 : Int) (v3 : ByteArray) (v4 v5 v6 v7 v8 : Int) (v9 : List Int) (v10 : List api_Pin) (v11 : ByteArray) (v12 : Int) (v13 : ByteArray)
 (h1 : v9.length < k) (h2 : v10.length < k) (h3 : v9.length ≤ 9223372036854775807) (h4 : v10.length ≤ 9223372036854775807) :
 ∀ (m i n : Nat) (a b : Int) (c : ByteArray) (d e f g h : Int) (l : List Int) (p : List api_Pin) (o : ByteArray) (q : Int) (r : ByteArray), i + m = 2 → m < n → l.length < k → p.length < k → l.length ≤ 9223372036854775807 → p.length ≤ 9223372036854775807 →
  law23_CasesVotes.L2 k v1 v2 v3 v4 v5 v6 v7 v8 v9 v10 v11 v12 v13 n (i : Int) a b c d e f g h l p o q r = some true
 | 0, i, n + 1, a, b, c, d, e, f, g, h, l, p, o, q, r, hi, _, _, _, _, _ => by
  rw [law23_CasesVotes.L2, if_neg (by omega), awake23 k hk]; rfl
 | m + 1, i, n + 1, a, b, c, d, e, f, g, h, l, p, o, q, r, hi, hn, k1, k2, k3, k4 => by
  obtain ⟨a1, a2, a3, a4, a5, x, y, a6, e1, x1, x2, x3, x4⟩ := ofC_some k a b c d e f g h l p o (by omega) k1 k2 k3 k4
  rw [law23_CasesVotes.L2, if_pos (by omega), cOf_eq k _ _ _ _ _ _ _ _ _ _ _ _ _ k3 k1 k2, rOf_eq k _ _ _ _ _ _ _ _ _ _ _ _ _ k3 k1 k2, e1, cb8, cb8, if_neg (by simp), if_neg (by simp), let1_eq, if_neg (by simp),
   rOrder_eq k x x y y x1 x2 x3 x4, ordC_self, bnd1_some, if_neg (by simp), succ64 i (by omega)]
  exact votes_L2 k hk v1 v2 v3 v4 v5 v6 v7 v8 v9 v10 v11 v12 v13 h1 h2 h3 h4 m (i + 1) n _ _ _ _ _ _ _ _ _ _ _ _ _ (by omega) (by omega) h1 h2 h3 h4
theorem CasesVotes_ex (v0 : List Int) (v1 v2 : Int) (v3 : ByteArray) (v4 v5 v6 v7 v8 : Int) (v9 : List Int) (v10 : List api_Pin) (v11 : ByteArray) (v12 : Int) (v13 : ByteArray) (h0 : Fit (.lst false false (v0.map (.int .i64)))) (h9 : Fit (.lst false false (v9.map (.int .i64)))) (h10 : Fit (.lst false false (v10.map api_Pin.av))) :
 ∃ k, law23_CasesVotes k v0 v1 v2 v3 v4 v5 v6 v7 v8 v9 v10 v11 v12 v13 = some true := by
 have l9 : v9.length ≤ 9223372036854775807 := by have := h9.1; rw [List.length_map] at this; exact this
 have l10 : v10.length ≤ 9223372036854775807 := by have := h10.1; rw [List.length_map] at this; exact this
 obtain ⟨k, hk, k9, k10⟩ : ∃ k, 10000 < k ∧ v9.length < k ∧ v10.length < k := ⟨10001 + v9.length + v10.length, by omega, by omega, by omega⟩
 refine ⟨k, ?_⟩
 have aw := awake23 k hk
 unfold law23_CasesVotes mill_Light mill_Roll
 rw [bnd1_some]
 by_cases a0 : ¬ (v0.length : Int) ≤ 400
 ·rw [if_pos (by simp; omega), aw]; rfl
 rw [if_neg (by simp; omega)]
 split
 ·rw [aw]; rfl
 rw [Roll_eq, bnd2_some, bnd2_some]
 obtain ⟨ep, p1, e1, q1, m1⟩ := Next_eq k v0 0 3 (by omega) (by decide)
 have m1 := m1 (by omega) (by omega)
 obtain ⟨d, s, r, p2, e2, q2, gc⟩ := Case_eq k v0 p1 ep (by omega) q1
 obtain ⟨au, p3, e3, q3, m3⟩ := Next_eq k v0 p2 5 (by omega) q2
 obtain ⟨nu, p4, e4, q4, m4⟩ := Next_eq k v0 p3 3 (by omega) q3
 have m3 := m3 (by omega) (by omega)
 have m4 := m4 (by omega) (by omega)
 obtain ⟨x, y, p5, e5, q5, gx⟩ := Content_eq k v0 p4 ep d s r (by omega) q4
 have hr := good_right gc m1.1 (by omega) gx
 have hl := gx.len
 rw [e1, bnd2_some, e2, cb5, e3, bnd2_some, e4, bnd2_some, e5, cb3, mVote_o_eq k hk hr, bnd1_some]
 obtain ⟨ca, p6, e6, q6, m6⟩ := Next_eq k v0 p5 10 (by omega) q5
 rw [e6, bnd2_some]
 have fin : ∀ (a b c d e : Int) (l : List Int) (o : ByteArray) (q : Int), l.length < 100 → law23_CasesVotes.J1 k v1 v2 v3 v4 v5 v6 v7 v8 v9 v10 v11 v12 v13 (stS au nu 1 10 ep (d + 16 * r) s x y) a b c d e l o q = some true := by
  intro a b c d e l o q h
  unfold law23_CasesVotes.J1 stS
  exact votes_L2 k hk v1 v2 v3 v4 v5 v6 v7 v8 v9 v10 v11 v12 v13 k9 k10 l9 l10 2 0 k _ _ _ _ _ _ _ _ _ _ _ _ _ (by omega) (by omega) (by omega) (by simp only; omega) (by omega) (by simp only; omega)
 have fin2 : ∀ (st : api_Statement) (a b c d e : Int) (l : List Int) (o : ByteArray) (q : Int), l.length < 100 → st.Pins.length < 100 → law23_CasesVotes.J1 k v1 v2 v3 v4 v5 v6 v7 v8 v9 v10 v11 v12 v13 st a b c d e l o q = some true := by
  intro st a b c d e l o q h h2
  unfold law23_CasesVotes.J1
  exact votes_L2 k hk v1 v2 v3 v4 v5 v6 v7 v8 v9 v10 v11 v12 v13 k9 k10 l9 l10 2 0 k _ _ _ _ _ _ _ _ _ _ _ _ _ (by omega) (by omega) (by omega) (by omega) (by omega) (by omega)
 have hlst : (stS au nu 1 10 ep (d + 16 * r) s x y).Lst.length ≤ 2 := hl.1
 have hpin : (stS au nu 1 10 ep (d + 16 * r) s x y).Pins.length ≤ 1 := hl.2.2.1
 generalize stS au nu 1 10 ep (d + 16 * r) s x y = st at hlst hpin
 split
 ·obtain ⟨z, p7, e7, q7, m7⟩ := Of_eq k v0 p6 [11, 1, 31, 9] (by omega) q6 (by simp) (by simp)
  rw [e7, bnd2_some]; exact fin2 _ _ _ _ _ _ _ _ _ (by omega) (by omega)
 split
 ·obtain ⟨z, p7, e7, q7, m7⟩ := Of_eq k v0 p6 [-1, 40] (by omega) q6 (by simp) (by simp)
  rw [e7, bnd2_some]; exact fin2 _ _ _ _ _ _ _ _ _ (by omega) (by omega)
 split
 ·obtain ⟨z, p7, e7, q7, m7⟩ := Of_eq k v0 p6 [0, 17, 33, 2, 19, 4] (by omega) q6 (by simp) (by simp)
  rw [e7, bnd2_some]; exact fin2 _ _ _ _ _ _ _ _ _ (by omega) (by omega)
 split
 ·obtain ⟨z, p7, e7, q7, m7⟩ := Of_eq k v0 p6 [64, 0, -1] (by omega) q6 (by simp) (by simp)
  rw [e7, bnd2_some]; exact fin2 _ _ _ _ _ _ _ _ _ (by omega) (by omega)
 split
 ·rw [chk_pos (by simp; omega)]; exact fin2 _ _ _ _ _ _ _ _ _ (by simp; omega) (by omega)
 split
 ·exact fin2 _ _ _ _ _ _ _ _ _ (by omega) (by omega)
 split
 ·obtain ⟨z, p7, e7, q7, m7⟩ := Of_eq k v0 p6 [-1, 64] (by omega) q6 (by simp) (by simp)
  rw [e7, bnd2_some]; exact fin2 _ _ _ _ _ _ _ _ _ (by omega) (by omega)
 split
 ·exact fin2 _ _ _ _ _ _ _ _ _ (by omega) (by omega)
 ·exact fin2 _ _ _ _ _ _ _ _ _ (by omega) (by omega)
theorem draftC_some (k : Nat) (e d s r : Int) (l : List Int) (p : List api_Pin) (hk : 100 < k) : ∃ a b c f x y z, draftC e d s r l p = (a, b, c, f, x, y, z) ∧ x.length < k ∧ y.length < k ∧ x.length ≤ 9223372036854775807 ∧ y.length ≤ 9223372036854775807 := by
 unfold draftC
 split
 ·split
  ·rename_i h
   have := right_all h
   exact ⟨_, _, _, _, _, _, _, rfl, by omega, by omega, by omega, by omega⟩
  ·exact ⟨_, _, _, _, _, _, _, rfl, by simp; omega, by simp; omega, by simp, by simp⟩
 ·exact ⟨_, _, _, _, _, _, _, rfl, by simp; omega, by simp; omega, by simp, by simp⟩
end Go.TF
