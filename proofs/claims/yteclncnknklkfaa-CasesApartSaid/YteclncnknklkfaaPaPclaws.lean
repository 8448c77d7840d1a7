/- The laws of layer 23. -/
import Derived.Test.YteclncnknklkfaaPaPcord
set_option linter.unusedVariables false
set_option linter.unusedSimpArgs false
namespace Go.TF
open Go Go.Abs
theorem cb3 {β : Type} (a : List Int) (b : List api_Pin) (c : Int) (f : List Int → List api_Pin → Int → Option β) : bnd3 (some (a, b, c)) f = f a b c := rfl
theorem ofC_some (k : Nat) (author num : Int) (prev : ByteArray) (time kind A B C : Int) (l : List Int) (pins : List api_Pin) (body : ByteArray) (hk : 0 < k) (hl : l.length < k) (hp : pins.length < k) (hl9 : l.length ≤ 9223372036854775807) (hp9 : pins.length ≤ 9223372036854775807) :
 ∃ a b c d e x p r, ofC author num prev time kind A B C l pins body = (a, b, c, d, e, x, p, r) ∧ x.length < k ∧ p.length < k ∧ x.length ≤ 9223372036854775807 ∧ p.length ≤ 9223372036854775807 := by
 unfold ofC
 split
 ·split
  ·exact ⟨_, _, _, _, _, _, _, _, rfl, hl, hp, hl9, hp9⟩
  ·exact ⟨_, _, _, _, _, _, _, _, rfl, by simpa using hk, by simpa using hk, by simp, by simp⟩
 ·exact ⟨_, _, _, _, _, _, _, _, rfl, by simpa using hk, by simpa using hk, by simp, by simp⟩
theorem sameD (k : Nat) (a b c d : Int) (x : List Int) (p : List api_Pin) (hx : x.length < k) (hp : p.length < k) (hx9 : x.length ≤ 9223372036854775807) (hp9 : p.length ≤ 9223372036854775807) : ref23_SameDraft k a b c d x p a b c d x p = some true := by
 unfold ref23_SameDraft
 rw [if_pos rfl, if_pos rfl, if_pos rfl, if_pos rfl, rOrder_eq k x x p p hx hp hx9 hp9, ordC_self, bnd1_some]
 rfl
theorem draftC_some (k : Nat) (e d s r : Int) (l : List Int) (p : List api_Pin) (hk : 100 < k) : ∃ a b c f x y z, draftC e d s r l p = (a, b, c, f, x, y, z) ∧ x.length < k ∧ y.length < k ∧ x.length ≤ 9223372036854775807 ∧ y.length ≤ 9223372036854775807 := by
 unfold draftC
 split
 ·split
  ·rename_i h
   have := right_all h
   exact ⟨_, _, _, _, _, _, _, rfl, by omega, by omega, by omega, by omega⟩
  ·exact ⟨_, _, _, _, _, _, _, rfl, by simp; omega, by simp; omega, by simp, by simp⟩
 ·exact ⟨_, _, _, _, _, _, _, rfl, by simp; omega, by simp; omega, by simp, by simp⟩
theorem CasesApart_ex (v0 : List Int) (h0 : Fit (.lst false false (v0.map (.int .i64)))) : ∃ k, law23_CasesApart k v0 = some true := by
 obtain ⟨k, hk⟩ : ∃ k, 10000 < k := ⟨20000, by omega⟩
 refine ⟨k, ?_⟩
 have aw := awake23 k hk
 unfold law23_CasesApart mill_Light mill_Roll
 rw [bnd1_some]
 by_cases a0 : ¬ (v0.length : Int) ≤ 400
 ·rw [if_pos (by simp; omega), aw]; rfl
 rw [if_neg (by simp; omega), Roll_eq, bnd2_some, bnd2_some]
 obtain ⟨ep, p1, e1, q1, m1⟩ := Next_eq k v0 0 2 (by omega) (by decide)
 have m1 := m1 (by omega) (by omega)
 obtain ⟨d, s, r, p2, e2, q2, gc⟩ := Case_eq k v0 p1 ep (by omega) q1
 obtain ⟨ep2, p3, e3, q3, m3⟩ := Next_eq k v0 p2 2 (by omega) q2
 have m3 := m3 (by omega) (by omega)
 obtain ⟨d2, s2, r2, p4, e4, q4, gc2⟩ := Case_eq k v0 p3 ep2 (by omega) q3
 obtain ⟨b, p5, e5, q5⟩ := One_eq k v0 p4 3 (by omega) q4 (by omega) (by omega)
 rw [e1, bnd2_some, e2, cb5, e3, bnd2_some, e4, cb5, e5, bnd2_some]
 have key : ∀ ep2 d2 s2 r2, 0 ≤ ep2 ∧ ep2 < 2 → GoodC d2 s2 r2 → law23_CasesApart.J1 k v0 ep d s r p5 ep2 d2 s2 r2 = some true := by
  intro ep2 d2 s2 r2 m3 gc2
  obtain ⟨x, y, p6, e6, q6, gx⟩ := Content_eq k v0 p5 ep d s r (by omega) q5
  obtain ⟨z, w, p7, e7, q7, gz⟩ := Content_eq k v0 p6 ep2 d2 s2 r2 (by omega) q6
  have lx := gx.len
  have lz := gz.len
  have hr := good_right gc (e := ep) (by omega) (by omega) gx
  have hr2 := good_right gc2 (e := ep2) (by omega) (by omega) gz
  have ho := (right_all hr).1
  have ho2 := (right_all hr2).1
  have hd : draftC ep d s r x y = (10, ep, d + 16 * r, s, x, y, 0) := by unfold draftC; rw [if_pos ho, if_pos hr]
  have hd2 : draftC ep2 d2 s2 r2 z w = (10, ep2, d2 + 16 * r2, s2, z, w, 0) := by unfold draftC; rw [if_pos ho2, if_pos hr2]
  unfold law23_CasesApart.J1
  rw [e6, cb3, e7, cb3, cDraft_eq k _ _ _ _ _ _ (by omega) (by omega) (by omega), hd, cb7, cDraft_eq k _ _ _ _ _ _ (by omega) (by omega) (by omega), hd2, cb7, if_pos rfl, if_pos rfl]
  have g1 := okC_iff ho
  have g2 := okC_iff ho2
  have hs : ref23_SameDraft k 10 ep (d + 16 * r) s x y 10 ep2 (d2 + 16 * r2) s2 z w = some (((ep == ep2) && ((d == d2) && ((s == s2) && (r == r2)))) && (ordC x y z w == 0)) := by
   unfold ref23_SameDraft
   rw [if_pos rfl, rOrder_eq k _ _ _ _ (by omega) (by omega) (by omega) (by omega), bnd1_some]
   by_cases c1 : ep = ep2
   ·by_cases c2 : d = d2 ∧ r = r2
    ·obtain ⟨rfl, rfl⟩ := c2
     by_cases c3 : s = s2
     ·subst c1 c3; rw [if_pos rfl, if_pos rfl, if_pos rfl]; simp
     ·rw [if_pos c1, if_pos rfl, if_neg c3]; simp [c3]
    ·rw [if_pos c1, if_neg (by omega)]
     have : ((d == d2) && ((s == s2) && (r == r2))) = false := by
      by_cases a : d = d2
      ·have : ¬ r = r2 := fun q => c2 ⟨a, q⟩
       simp [this]
      ·simp [a]
     rw [this]; simp
   ·rw [if_neg c1]; simp [c1]
  rw [hs, bnd1_some, let1_eq]
  cases ((ep == ep2) && ((d == d2) && ((s == s2) && (r == r2))))
  ·rw [if_neg (by simp), if_pos (by simp), if_pos rfl, aw]; rfl
  ·rw [if_pos rfl, cOrder_eq k (by omega) _ _ _ _ (by omega) (by omega) (by omega) (by omega), bnd1_some, if_pos (by simp), if_pos rfl, aw]; rfl
 cases b
 ·rw [if_neg (by simp)]; exact key _ _ _ _ m3 gc2
 ·rw [if_pos rfl]; exact key _ _ _ _ m1 gc
end Go.TF
