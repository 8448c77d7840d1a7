/- The laws of layer 23. -/
import Derived.Test.YteclncnknklkfaaOaPcord
set_option linter.unusedVariables false
set_option linter.unusedSimpArgs false
namespace Go.TF
open Go Go.Abs
theorem cb3 {β : Type} (a : List Int) (b : List api_Pin) (c : Int) (f : List Int → List api_Pin → Int → Option β) : bnd3 (some (a, b, c)) f = f a b c := rfl
theorem ofC_some (k : Nat) (author num : Int) (prev : ByteArray) (time kind A B C : Int) (l : List Int) (pins : List api_Pin) (body : ByteArray) (hk : 0 < k) (hl : l.length < k) (hp : pins.length < k) (hl9 : l.length ≤ 9223372036854775807) (hp9 : pins.length ≤ 9223372036854775807) :
 ∃ a b c d e x p r, ofC author num prev time kind A B C l pins body = (a, b, c, d, e, x, p, r) ∧ x.length < k ∧ p.length < k ∧ x.length ≤ 9223372036854775807 ∧ p.length ≤ 9223372036854775807 := by
 unfold ofC
 split
 ·split
  ·exact ⟨_, _, _, _, _, _, _, _, rfl, hl, hp, hl9, hp9⟩
  ·exact ⟨_, _, _, _, _, _, _, _, rfl, by simpa using hk, by simpa using hk, by simp, by simp⟩
 ·exact ⟨_, _, _, _, _, _, _, _, rfl, by simpa using hk, by simpa using hk, by simp, by simp⟩
theorem draftC_some (k : Nat) (e d s r : Int) (l : List Int) (p : List api_Pin) (hk : 100 < k) : ∃ a b c f x y z, draftC e d s r l p = (a, b, c, f, x, y, z) ∧ x.length < k ∧ y.length < k ∧ x.length ≤ 9223372036854775807 ∧ y.length ≤ 9223372036854775807 := by
 unfold draftC
 split
 ·split
  ·rename_i h
   have := right_all h
   exact ⟨_, _, _, _, _, _, _, rfl, by omega, by omega, by omega, by omega⟩
  ·exact ⟨_, _, _, _, _, _, _, rfl, by simp; omega, by simp; omega, by simp, by simp⟩
 ·exact ⟨_, _, _, _, _, _, _, rfl, by simp; omega, by simp; omega, by simp, by simp⟩
theorem sameP_loop (k : Nat) (a b : List api_Pin) (hl : a.length = b.length) (h9 : a.length ≤ 9223372036854775807) : ∀ (m i n : Nat), i + m = a.length → m < n → law23_samePins.L1 k a b n (i : Int) = some (lexF cmpP (a.drop i) (b.drop i) == 0)
 | 0, i, n + 1, h, _ => by rw [law23_samePins.L1, if_neg (by omega), List.drop_of_length_le (l := a) (by omega), List.drop_of_length_le (l := b) (by omega)]; rfl
 | m + 1, i, n + 1, h, hn => by
  have h1 : i < a.length := by omega
  have h2 : i < b.length := by omega
  rw [law23_samePins.L1, if_pos (by omega), idx_pos h1, idx_pos h2, let1_eq, lex_step cmpP a b i h1 h2, succ64 i (by omega), sameP_loop k a b hl h9 m (i + 1) n (by omega) (by omega)]
  have e : ((a[i].Author == b[i].Author) && ((a[i].Height == b[i].Height) && (strEq a[i].Digest b[i].Digest))) = (cmpP a[i] b[i] == 0) := by
   rw [Bool.eq_iff_iff]
   simp only [Bool.and_eq_true, beq_iff_eq, strEq_iff, cmpP_cmp.z]
   cases a[i]; cases b[i]
   simp
  rw [e]
  unfold thenC
  by_cases c : cmpP a[i] b[i] = 0
  ·rw [if_neg (by simp [c]), if_pos c]
  ·rw [if_pos (by simp [c]), if_neg c]; simp [c]
theorem sameP_eq (k : Nat) (a b : List api_Pin) (ha : a.length < k) (h9 : a.length ≤ 9223372036854775807) : law23_samePins k a b = some (lexF cmpP a b == 0) := by
 unfold law23_samePins
 by_cases h : a.length = b.length
 ·rw [if_neg (by omega)]
  exact sameP_loop k a b h h9 a.length 0 k (by omega) ha
 ·rw [if_pos (by omega)]
  have : ¬ lexF cmpP a b = 0 := fun c => h (by rw [(cmpP_cmp.lex.z a b).1 c])
  simp [this]
theorem CasesOrder_ex (v0 : List Int) (h0 : Fit (.lst false false (v0.map (.int .i64)))) : ∃ k, law23_CasesOrder k v0 = some true := by
 obtain ⟨k, hk⟩ : ∃ k, 10000 < k := ⟨20000, by omega⟩
 refine ⟨k, ?_⟩
 have aw := awake23 k hk
 unfold law23_CasesOrder mill_Light mill_Roll
 rw [bnd1_some]
 by_cases a0 : ¬ (v0.length : Int) ≤ 400
 ·rw [if_pos (by simp; omega), aw]; rfl
 rw [if_neg (by simp; omega), Roll_eq, bnd2_some, bnd2_some]
 obtain ⟨d, s, r, p2, e2, q2, gc⟩ := Case_eq k v0 0 0 (by omega) (by decide)
 obtain ⟨x, xp, p3, e3, q3, gx⟩ := Content_eq k v0 p2 0 d s r (by omega) q2
 obtain ⟨y, yp, p4, e4, q4, gy⟩ := Content_eq k v0 p3 0 d s r (by omega) q3
 obtain ⟨z, zp, p5, e5, q5, gz⟩ := Content_eq k v0 p4 0 d s r (by omega) q4
 obtain ⟨b, p6, e6, q6⟩ := One_eq k v0 p5 3 (by omega) q5 (by omega) (by omega)
 have lx := gx.len
 have ly := gy.len
 have lz := gz.len
 rw [e2, cb5, e3, cb3, e4, cb3, e5, cb3, e6, bnd2_some]
 have key : ∀ (y : List Int) (yp : List api_Pin), y.length ≤ 2 → yp.length ≤ 1 → law23_CasesOrder.J1 k x xp z zp y yp = some true := by
  intro y yp hy hyp
  have hC := ordC_cmp
  have va := hC.v (x, xp) (y, yp)
  have vb := hC.v (y, yp) (z, zp)
  have ve := hC.v (x, xp) (z, zp)
  have sa := hC.s (x, xp) (y, yp)
  have sb := hC.s (y, yp) (z, zp)
  have se := hC.s (x, xp) (z, zp)
  have za := hC.z (x, xp) (y, yp)
  have zb := hC.z (y, yp) (z, zp)
  have t1 := hC.t (x, xp) (y, yp) (z, zp)
  have t2 := hC.t (z, zp) (y, yp) (x, xp)
  have j2 : law23_CasesOrder.J2 k x xp y yp (ordC x xp y yp) false = some true := by
   unfold law23_CasesOrder.J2
   rw [if_neg (by simp), same23_eq k x y (by omega) (by omega), bnd1_some]
   by_cases c1 : x = y
   ·rw [if_pos (by simp [c1]), sameP_eq k xp yp (by omega) (by omega), bnd1_some]
    have : ((ordC x xp y yp == 0) == (lexF cmpP xp yp == 0)) = true := by
     rw [beq_iff_eq, Bool.eq_iff_iff, beq_iff_eq, beq_iff_eq, cmpP_cmp.lex.z]
     simp only at za
     rw [za, Prod.mk.injEq]
     exact ⟨fun h => h.2, fun h => ⟨c1, h⟩⟩
    rw [if_pos this, aw]; rfl
   ·rw [if_neg (by simp [c1])]
    have : ((ordC x xp y yp == 0) == false) = true := by
     have : ¬ ordC x xp y yp = 0 := fun h => c1 (by
      have := za.1 h
      simp only [Prod.mk.injEq] at this
      exact this.1)
     simp [this]
    rw [if_pos this, aw]; rfl
  unfold law23_CasesOrder.J1
  rw [cOrder_eq k (by omega) x y xp yp (by omega) (by omega) (by omega) (by omega), bnd1_some, cOrder_eq k (by omega) y z yp zp (by omega) (by omega) (by omega) (by omega), bnd1_some, cOrder_eq k (by omega) x z xp zp (by omega) (by omega) (by omega) (by omega), bnd1_some, cOrder_eq k (by omega) y x yp xp (by omega) (by omega) (by omega) (by omega), bnd1_some]
  have eqe : ordC x xp y yp = 0 → ordC y yp z zp = ordC x xp z zp := fun h => by
   have := za.1 h
   simp only [Prod.mk.injEq] at this
   rw [this.1, this.2]
  have eqe2 : ordC y yp z zp = 0 → ordC x xp y yp = ordC x xp z zp := fun h => by
   have := zb.1 h
   simp only [Prod.mk.injEq] at this
   rw [this.1, this.2]
  simp only at va vb ve sa sb se t1 t2
  generalize ha : ordC x xp y yp = A at *
  generalize hb : ordC y yp z zp = B at *
  generalize he : ordC x xp z zp = E at *
  generalize hA' : ordC y yp x xp = A' at *
  generalize hB' : ordC z zp y yp = B' at *
  generalize hE' : ordC z zp x xp = E' at *
  have w0 : IntKind.wrap .i64 (-A') = A := by rw [w64 (by omega) (by omega)]; omega
  rw [w0, if_neg (by simp)]
  rcases va with rfl | rfl | rfl <;> rcases vb with rfl | rfl | rfl <;> rcases ve with rfl | rfl | rfl <;> first | (simp; exact j2) | (exfalso; revert t1 t2 eqe eqe2; simp; omega) | (exfalso; have := eqe; have := eqe2; omega) | skip
 cases b
 ·rw [if_neg (by simp)]; exact key y yp ly.1 ly.2.2.1
 ·unfold law23_ref23copy
  rw [if_pos rfl, chk_pos (by omega), chk_pos (by omega), bnd2_some]; exact key x xp lx.1 lx.2.2.1
end Go.TF
