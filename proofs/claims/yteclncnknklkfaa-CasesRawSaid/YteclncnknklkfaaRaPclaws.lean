/- The laws of layer 23. -/
import Derived.Test.YteclncnknklkfaaRaPcord
set_option linter.unusedVariables false
set_option linter.unusedSimpArgs false
namespace Go.TF
open Go Go.Abs
theorem cb3 {β : Type} (a : List Int) (b : List api_Pin) (c : Int) (f : List Int → List api_Pin → Int → Option β) : bnd3 (some (a, b, c)) f = f a b c := rfl
theorem ofC_some (k : Nat) (author num : Int) (prev : ByteArray) (time kind A B C : Int) (l : List Int) (pins : List api_Pin) (body : ByteArray) (hk : 0 < k) (hl : l.length < k) (hp : pins.length < k) (hl9 : l.length ≤ 9223372036854775807) (hp9 : pins.length ≤ 9223372036854775807) :
 ∃ a b c d e x p r, ofC author num prev time kind A B C l pins body = (a, b, c, d, e, x, p, r) ∧ x.length < k ∧ p.length < k ∧ x.length ≤ 9223372036854775807 ∧ p.length ≤ 9223372036854775807 := by
 unfold ofC
 split
 ·split
  ·exact ⟨_, _, _, _, _, _, _, _, rfl, hl, hp, hl9, hp9⟩
  ·exact ⟨_, _, _, _, _, _, _, _, rfl, by simpa using hk, by simpa using hk, by simp, by simp⟩
 ·exact ⟨_, _, _, _, _, _, _, _, rfl, by simpa using hk, by simpa using hk, by simp, by simp⟩
theorem sameD (k : Nat) (a b c d : Int) (x : List Int) (p : List api_Pin) (hx : x.length < k) (hp : p.length < k) (hx9 : x.length ≤ 9223372036854775807) (hp9 : p.length ≤ 9223372036854775807) : ref23_SameDraft k a b c d x p a b c d x p = some true := by
 unfold ref23_SameDraft
 rw [if_pos rfl, if_pos rfl, if_pos rfl, if_pos rfl, rOrder_eq k x x p p hx hp hx9 hp9, ordC_self, bnd1_some]
 rfl
theorem draftC_some (k : Nat) (e d s r : Int) (l : List Int) (p : List api_Pin) (hk : 100 < k) : ∃ a b c f x y z, draftC e d s r l p = (a, b, c, f, x, y, z) ∧ x.length < k ∧ y.length < k ∧ x.length ≤ 9223372036854775807 ∧ y.length ≤ 9223372036854775807 := by
 unfold draftC
 split
 ·split
  ·rename_i h
   have := right_all h
   exact ⟨_, _, _, _, _, _, _, rfl, by omega, by omega, by omega, by omega⟩
  ·exact ⟨_, _, _, _, _, _, _, rfl, by simp; omega, by simp; omega, by simp, by simp⟩
 ·exact ⟨_, _, _, _, _, _, _, rfl, by simp; omega, by simp; omega, by simp, by simp⟩
theorem raw23_L2 (k : Nat) (hk : 10000 < k) (v1 v2 v3 v4 : Int) (v5 : List Int) (v6 : List api_Pin) (z : List Int) (w : List api_Pin) (h1 : v5.length < k) (h2 : v6.length < k) (h3 : v5.length ≤ 9223372036854775807) (h4 : v6.length ≤ 9223372036854775807) (hz : z.length < 100) (hw : w.length < 100) :
 ∀ (m i n : Nat) (a b c d : Int) (x : List Int) (y : List api_Pin), i + m = 2 → m < n → x.length < k → y.length < k → x.length ≤ 9223372036854775807 → y.length ≤ 9223372036854775807 →
  law23_CasesRaw.L2 k v1 v2 v3 v4 v5 v6 z w n (i : Int) a b c d x y = some true
 | 0, i, n + 1, a, b, c, d, x, y, hi, _, _, _, _, _ => by
  rw [law23_CasesRaw.L2, if_neg (by omega), awake23 k hk]; rfl
 | m + 1, i, n + 1, a, b, c, d, x, y, hi, hn, k1, k2, k3, k4 => by
  obtain ⟨a1, a2, a3, a4, a5, a6, a7, e1, x1, x2, x3, x4⟩ := draftC_some k a b c d x y (by omega)
  rw [law23_CasesRaw.L2, if_pos (by omega), cDraft_eq k _ _ _ _ _ _ k3 k1 k2, rDraft_eq k _ _ _ _ _ _ (by omega) k2, e1, cb7, cb7, if_neg (by simp), sameD k _ _ _ _ _ _ x1 x2 x3 x4, bnd1_some, if_neg (by simp), cValid_eq, rValid_eq, bnd1_some, bnd1_some, if_neg (by simp),
   cCode_eq, rCode_eq, bnd1_some, bnd1_some, if_neg (by simp), cRight_eq k _ _ _ _ _ _ k3 k1 k2, rRight_eq k _ _ _ _ _ _ (by omega) k2, bnd1_some, bnd1_some, if_neg (by simp),
   cOrder_eq k (by omega) _ _ _ _ k1 k2 k3 k4, rOrder_eq k _ _ _ _ k1 k2 k3 k4, bnd1_some, bnd1_some, if_neg (by simp), cOrder_eq k (by omega) _ _ _ _ (by omega) (by omega) (by omega) (by omega), rOrder_eq k _ _ _ _ (by omega) (by omega) (by omega) (by omega), bnd1_some, bnd1_some, if_neg (by simp),
   cOrder_eq k (by omega) _ _ _ _ k1 k2 k3 k4, ordC_self, bnd1_some, if_neg (by simp), succ64 i (by omega)]
  exact raw23_L2 k hk v1 v2 v3 v4 v5 v6 z w h1 h2 h3 h4 hz hw m (i + 1) n _ _ _ _ _ _ (by omega) (by omega) h1 h2 h3 h4
theorem CasesRaw_ex (v0 : List Int) (v1 v2 v3 v4 : Int) (v5 : List Int) (v6 : List api_Pin) (h0 : Fit (.lst false false (v0.map (.int .i64)))) (h5 : Fit (.lst false false (v5.map (.int .i64)))) (h6 : Fit (.lst false false (v6.map api_Pin.av))) :
 ∃ k, law23_CasesRaw k v0 v1 v2 v3 v4 v5 v6 = some true := by
 have l5 : v5.length ≤ 9223372036854775807 := by have := h5.1; rw [List.length_map] at this; exact this
 have l6 : v6.length ≤ 9223372036854775807 := by have := h6.1; rw [List.length_map] at this; exact this
 obtain ⟨k, hk, k5, k6⟩ : ∃ k, 10000 < k ∧ v5.length < k ∧ v6.length < k := ⟨10001 + v5.length + v6.length, by omega, by omega, by omega⟩
 refine ⟨k, ?_⟩
 have aw := awake23 k hk
 unfold law23_CasesRaw mill_Light mill_Roll
 rw [bnd1_some]
 by_cases a0 : ¬ (v0.length : Int) ≤ 400
 ·rw [if_pos (by simp; omega), aw]; rfl
 rw [if_neg (by simp; omega)]
 split
 ·rw [aw]; rfl
 rw [Roll_eq, bnd2_some, bnd2_some]
 obtain ⟨ep, p1, e1, q1, m1⟩ := Next_eq k v0 0 3 (by omega) (by decide)
 obtain ⟨d, s, r, p2, e2, q2, gc⟩ := Case_eq k v0 p1 ep (by omega) q1
 obtain ⟨x, y, p3, e3, q3, gx⟩ := Content_o_eq k v0 p2 ep d s r (by omega) q2
 obtain ⟨z, w, p4, e4, q4, gz⟩ := Content_o_eq k v0 p3 ep d s r (by omega) q3
 have lx := gx.len
 have lz := gz.len
 obtain ⟨ca, p6, e6, q6, m6⟩ := Next_eq k v0 p4 9 (by omega) q4
 rw [e1, bnd2_some, e2, cb5, e3, cb3, e4, cb3, e6, bnd2_some]
 have fin : ∀ (a b c d : Int) (l : List Int) (p : List api_Pin), l.length < 100 → p.length < 100 → law23_CasesRaw.J1 k v1 v2 v3 v4 v5 v6 z w a b c d l p = some true := by
  intro a b c d l p h h'
  unfold law23_CasesRaw.J1
  exact raw23_L2 k hk v1 v2 v3 v4 v5 v6 z w k5 k6 l5 l6 (by omega) (by omega) 2 0 k _ _ _ _ _ _ (by omega) (by omega) (by omega) (by omega) (by omega) (by omega)
 split
 ·obtain ⟨t, p7, e7, q7, m7⟩ := Of_eq k v0 p6 [-1, 39, 40] (by omega) q6 (by simp) (by simp)
  rw [e7, bnd2_some]; exact fin _ _ _ _ _ _ (by omega) (by omega)
 split
 ·obtain ⟨t, p7, e7, q7, m7⟩ := Next_eq k v0 p6 6 (by omega) q6
  rw [e7, bnd2_some]; exact fin _ _ _ _ _ _ (by omega) (by omega)
 split
 ·obtain ⟨t, p7, e7, q7, m7⟩ := Of_eq k v0 p6 [-1, 63, 64] (by omega) q6 (by simp) (by simp)
  rw [e7, bnd2_some]; exact fin _ _ _ _ _ _ (by omega) (by omega)
 split
 ·obtain ⟨t, p7, e7, q7, m7⟩ := Of_eq k v0 p6 [-1, 2, 1] (by omega) q6 (by simp) (by simp)
  rw [e7, bnd2_some]; exact fin _ _ _ _ _ _ (by omega) (by omega)
 split
 ·rw [chk_pos (by simp; omega)]; exact fin _ _ _ _ _ _ (by simp; omega) (by omega)
 split
 ·obtain ⟨t, p7, e7, q7, m7⟩ := Of_eq k v0 p6 [-1, 4294967296, 4294967295, 2] (by omega) q6 (by simp) (by simp)
  rw [e7, bnd2_some, chk_pos ⟨by omega, by have := lx.2.1; show 0 < x.length; omega⟩]; exact fin _ _ _ _ _ _ (by rw [List.length_set]; omega) (by omega)
 split
 ·obtain ⟨t, p7, e7, q7, m7⟩ := Of_eq k v0 p6 [0, -1, 64] (by omega) q6 (by simp) (by simp)
  obtain ⟨u, p8, e8, q8, m8⟩ := Of_eq k v0 p7 [1, 0] (by omega) q7 (by simp) (by simp)
  obtain ⟨g, p9, e9, q9, m9⟩ := DDigest_eq k v0 p8 (by omega) q8
  rw [e7, bnd2_some, e8, bnd2_some, e9, bnd2_some, chk_pos (by simp; omega)]; exact fin _ _ _ _ _ _ (by omega) (by simp; omega)
 ·exact fin _ _ _ _ _ _ (by omega) (by omega)
end Go.TF
