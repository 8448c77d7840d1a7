/- Plain laws of layer 26: committees of cases. -/
import Derived.Test.YtepdfenlkeaefaaIPfewer
import Derived.Test.YtepdfenlkeaefaaIPbnum
import Derived.Test.YtepdfenlkeaefaaIPrules
set_option linter.unusedVariables false
set_option linter.unusedSimpArgs false
namespace Go.TF
open Go Go.Abs
theorem drawL_err : ∀ (xs left out : List Int), (drawL left xs out).2 ≠ 0 → (drawL left xs out).1 = []
 | [], left, out, h => by simp [drawL] at h
 | x :: xs, left, out, h => by
  rw [drawL] at h ⊢
  split at h
  ·rename_i c; rw [if_pos c]
  ·rename_i c; rw [if_neg c]; exact drawL_err xs _ _ h
theorem drawF_err (l nums : List Int) (s : Int) (h : (drawF l nums s).2 ≠ 0) : (drawF l nums s).1 = [] := by
 unfold drawF at h ⊢
 split at h; · rename_i c; rw [if_pos c]
 rename_i c1; rw [if_neg c1]
 split at h; · rename_i c; rw [if_pos c]
 rename_i c2; rw [if_neg c2]
 split at h; · rename_i c; rw [if_pos c]
 rename_i c3; rw [if_neg c3]
 split at h; · rename_i c; rw [if_pos c]
 rename_i c4; rw [if_neg c4]
 exact drawL_err _ _ _ h
theorem case_eq (k : Nat) (a b c d : Int) : ∃ r, cases_Valid k a b c d = some r ∧ ref23_Valid k a b c d = some r ∧ (r = true → 0 ≤ d ∧ d ≤ 1) := by
 unfold cases_Valid ref23_Valid cases_Valid.J1 ref23_Valid.J1
 split; · exact ⟨_, rfl, rfl, by simp⟩
 split; · exact ⟨_, rfl, rfl, by simp⟩
 split; · exact ⟨_, rfl, rfl, by simp⟩
 split; · exact ⟨_, rfl, rfl, by simp⟩
 split; · exact ⟨_, rfl, rfl, by simp⟩
 split; · exact ⟨_, rfl, rfl, by simp⟩
 rename_i h1 h2
 have hd : 0 ≤ d ∧ d ≤ 1 := by omega
 split
 ·split
  ·exact ⟨_, rfl, rfl, fun _ => hd⟩
  ·exact ⟨_, rfl, rfl, by simp⟩
 split
 ·exact ⟨_, rfl, rfl, fun _ => hd⟩
 split
 ·exact ⟨_, rfl, rfl, fun _ => hd⟩
 ·exact ⟨_, rfl, rfl, by simp⟩
theorem setM_nil (l : List Int) (h : okR l = true) : setM l [] = l := by
 have e : setM l [] = setJ l [] := by unfold setM setJ; congr 1; funext j; simp
 rw [e]; exact setJ_self l l h fun _ => Iff.rfl
theorem Of26 (k : Nat) (hk : 900 < k) (g s t : List Int) (lv seats span quota : Int) (val : ByteArray) (l : List Int) (ep kind subj rd : Int) (hg : g.length ≤ 100) (hs : s.length ≤ 100) (ht : t.length ≤ 100) (hl : l.length ≤ 100) :
 ∃ a e, committee_Of k g s t lv seats span quota val l ep kind subj rd = some (a, e) ∧ ref26_Of k g s t lv seats span quota val l ep kind subj rd = some (a, e) ∧ a.length ≤ 9 := by
 unfold committee_Of ref26_Of
 rw [Check24_eq k g s t lv seats span quota (by omega) (by omega) (by omega) (by omega) (by omega) (by omega), refCheck24_eq k g s t lv seats span quota (by omega) (by omega) (by omega) (by omega) (by omega) (by omega), bnd1_some, bnd1_some]
 split
 ·exact ⟨_, _, rfl, rfl, by simp⟩
 rw [Valid_eq k l (by omega) (by omega), refValid_eq k l (by omega) (by omega), bnd1_some, bnd1_some]
 cases ho : okR l
 ·exact ⟨_, _, rfl, rfl, by simp⟩
 rw [itt, itt]
 obtain ⟨r, e1, e2, e3⟩ := case_eq k ep kind subj rd
 rw [e1, e2, bnd1_some, bnd1_some]
 cases r
 ·exact ⟨_, _, rfl, rfl, by simp⟩
 rw [itt, itt]
 have hr := e3 rfl
 obtain ⟨q, rfl⟩ : ∃ q, k = q + 3 := ⟨k - 3, by omega⟩
 unfold committee_draw
 rw [Numbers_eq _ hk, ref26_Of.L1, if_pos (by omega), refNumbers_eq _ hk]
 obtain ⟨⟨nu, er⟩, hn⟩ : ∃ p, numsF val [ep, kind, subj, 0] 9 = p := ⟨_, rfl⟩
 rw [hn, bnd2_some, bnd2_some]
 by_cases c : er ≠ 0
 ·rw [if_pos c, if_pos c, bnd2_some, if_pos c]; exact ⟨_, _, rfl, rfl, by simp⟩
 rw [if_neg c, if_neg c, Draw_eq _ l nu seats (by omega) (by omega) (by omega), refMinus_eq _ _ _ (by omega) (by omega) (by simp) (by omega) (by simp), setM_nil l ho, bnd1_some, if_neg (by have := okR_pos ho; omega), refDraw_eq _ l nu seats (by omega) (by omega) (by omega)]
 have hf := drawF_err l nu seats
 have hfl := drawF_len l nu seats
 obtain ⟨⟨f, e⟩, hfe⟩ : ∃ p, drawF l nu seats = p := ⟨_, rfl⟩
 rw [hfe] at hf hfl ⊢
 have hf : e ≠ 0 → f = [] := hf
 rw [bnd2_some, bnd2_some, bnd2_some]
 by_cases c2 : e ≠ 0
 ·rw [if_pos c2, if_pos c2, hf c2]; exact ⟨_, _, rfl, rfl, by simp⟩
 have c2' := Decidable.not_not.1 c2
 subst c2'
 rw [if_neg c2, if_neg c2, show IntKind.wrap .i64 ((0 : Int) + 1) = 1 by decide, ref26_Of.L1]
 by_cases c3 : rd = 0
 ·rw [if_pos c3, if_neg (by omega)]; exact ⟨_, _, rfl, rfl, hfl⟩
 rw [if_neg c3, if_pos (by omega)]
 have hfl' : f.length ≤ 9 := hfl
 rw [Minus_eq _ l f (by omega) (by omega) (by omega) (by omega) (by omega), bnd1_some, refNumbers_eq _ hk]
 obtain ⟨⟨nu2, er2⟩, hn2⟩ : ∃ p, numsF val [ep, kind, subj, 1] 9 = p := ⟨_, rfl⟩
 rw [hn2, bnd2_some]
 have hml := setM_len l f
 by_cases c5 : er2 ≠ 0
 ·rw [if_pos c5]
  by_cases c4 : ((setM l f).length : Int) = 0
  ·exfalso
   unfold numsF at hn hn2
   simp only [List.length_cons, List.length_nil] at hn hn2
   split at hn2
   ·rename_i d; rw [if_pos d] at hn; cases hn; exact c (by omega)
   rename_i d; rw [if_neg d] at hn
   rw [if_neg (by omega), if_neg (by omega), if_neg (by omega)] at hn2
   cases hn2; exact c5 rfl
  ·rw [if_neg c4, Numbers_eq _ hk, hn2, bnd2_some, if_pos c5, bnd2_some]; exact ⟨_, _, rfl, rfl, by simp⟩
 rw [if_neg c5, refMinus_eq _ _ _ (by omega) (by omega) (by omega) (by omega) (by omega), bnd1_some]
 by_cases c4 : ((setM l f).length : Int) = 0
 ·rw [if_pos c4, if_pos c4]; exact ⟨_, _, rfl, rfl, by simp⟩
 rw [if_neg c4, if_neg c4, Numbers_eq _ hk, hn2, bnd2_some, if_neg c5, Draw_eq _ _ nu2 seats (by omega) (by omega) (by omega), refDraw_eq _ _ nu2 seats (by omega) (by omega) (by omega)]
 have hf2 := drawF_err (setM l f) nu2 seats
 have hfl2 := drawF_len (setM l f) nu2 seats
 obtain ⟨⟨f2, e2'⟩, hfe2⟩ : ∃ p, drawF (setM l f) nu2 seats = p := ⟨_, rfl⟩
 rw [hfe2] at hf2 hfl2 ⊢
 have hf2 : e2' ≠ 0 → f2 = [] := hf2
 rw [bnd2_some, bnd2_some, bnd2_some]
 by_cases c6 : e2' ≠ 0
 ·rw [if_pos c6, hf2 c6]; exact ⟨_, _, rfl, rfl, by simp⟩
 have c6' := Decidable.not_not.1 c6
 subst c6'
 rw [if_neg c6, show IntKind.wrap .i64 ((1 : Int) + 1) = 2 by decide, ref26_Of.L1, if_neg (by omega)]
 exact ⟨_, _, rfl, rfl, hfl2⟩
theorem Case_eq (k : Nat) (l : List Int) (p ep : Int) (hl : l.length ≤ 1000) (hp : Pos p) : ∃ kind subj rd q, mill_Case k l p ep = some (ep, kind, subj, rd, q) ∧ Pos q := by
 unfold mill_Case mill_Case.J1
 obtain ⟨a, q1, e1, h1, _⟩ := Next_eq k l p 3 hl hp
 rw [e1, bnd2_some]
 split
 ·obtain ⟨b, q2, e2, h2, _⟩ := Next_eq k l q1 7 hl h1
  obtain ⟨c, q3, e3, h3, _⟩ := Next_eq k l q2 2 hl h2
  rw [e2, bnd2_some, e3, bnd2_some]
  exact ⟨_, _, _, _, rfl, h3⟩
 ·exact ⟨_, _, _, _, rfl, h1⟩
theorem comm_J (k : Nat) (hk : 900 < k) (haw : law26_awake k = some true) (kind subj : Int) (g s t : List Int) (lv seats span quota : Int) (val : ByteArray) (l : List Int) (ep rd : Int) (hg : g.length ≤ 100) (hs : s.length ≤ 100) (ht : t.length ≤ 100) (hl : l.length ≤ 100) :
 law26_CommitteeOf.J1 k kind subj g s t lv seats span quota val l ep rd = some true := by
 unfold law26_CommitteeOf.J1
 obtain ⟨a, e, h1, h2, h3⟩ := Of26 k hk g s t lv seats span quota val l ep kind subj rd hg hs ht hl
 rw [h1, h2, bnd2_some, bnd2_some, if_pos rfl, same23_refl _ _ (by omega) (by omega), bnd1_some, if_pos rfl, haw]; rfl
theorem Keys_o26 (k : Nat) (l : List Int) (p n : Int) : mill_Keys_o k l p n = mill_Keys k l p n := rfl
theorem ofI_sz26 (l : List Int) : (ofI l).size = l.length := by simp [ofI, ByteArray.size]
theorem CommitteeOf_true (v0 : List Int) (v1 : ByteArray) (v2 : Int) (h0 : Fit (.lst false false (v0.map (.int .i64)))) (h1 : Fit (.str v1)) (h2 : Fit (.int .u8 v2)) : law26_CommitteeOf 1000 v0 v1 v2 = some true := by
 unfold law26_CommitteeOf
 rw [mLight_eq, bnd1_some]
 by_cases hb : (v0.length : Int) ≤ 400
 case neg => rw [if_pos (by simp [hb]), awake26]; rfl
 rw [if_neg (by simp [hb])]
 by_cases h200 : 200 < (v1.size : Int)
 ·rw [if_pos h200, awake26]; rfl
 rw [if_neg h200]
 have hl : v0.length ≤ 1000 := by omega
 obtain ⟨g, s, t, lv, se, sp, qu, q, e1, q1, G⟩ := Rules_eq 1000 v0 0 hl ⟨by omega, by omega⟩
 obtain ⟨b1, b2, b3⟩ := G.lens
 obtain ⟨L, q2, e2, hq2, _, _, hL⟩ := Keys_eq 1000 v0 q hl q1 7 (by omega) (by omega) (by omega)
 obtain ⟨a, q3, e3, hq3, _⟩ := Next_eq 1000 v0 q2 3 hl hq2
 obtain ⟨kind, subj, rd, q4, e4, hq4⟩ := Case_eq 1000 v0 q3 a hl hq3
 obtain ⟨g', s', t', lv', se', sp', qu', q5, e5, hq5, c1, c2, c3⟩ := Odd_eq 1000 v0 q4 g s t lv se sp qu hl hq4 b1 b2 b3
 have hz : (ofI (List.replicate (32 : Int).toNat 0)).size = 32 := by rw [ofI_sz26]; rfl
 rw [mRoll_eq, bnd2_some, e1]
 simp only [bnd8]
 rw [chk_pos (by omega), chk_pos (by rw [hz]; omega), chk_pos (by rw [ByteArray.size_append, hz]; omega), Keys_o26, e2, bnd2_some, e3, bnd2_some, e4]
 simp only [bnd5]
 split
 ·rw [e5]; exact comm_J 1000 (by omega) awake26 kind subj g' s' t' lv' se' sp' qu' _ L a rd (by omega) (by omega) (by omega) (by omega)
 split
 ·exact comm_J 1000 (by omega) awake26 _ _ _ _ _ _ _ _ _ _ _ _ _ (by omega) (by omega) (by omega) (by omega)
 split
 ·rw [chk_pos (by simp only [List.length_cons, List.length_nil]; omega)]; exact comm_J 1000 (by omega) awake26 _ _ _ _ _ _ _ _ _ _ _ _ _ (by omega) (by omega) (by omega) (by simp only [List.length_append, List.length_cons, List.length_nil]; omega)
 split
 ·exact comm_J 1000 (by omega) awake26 _ _ _ _ _ _ _ _ _ _ _ _ _ (by omega) (by omega) (by omega) (by omega)
 split
 ·exact comm_J 1000 (by omega) awake26 _ _ _ _ _ _ _ _ _ _ _ _ _ (by omega) (by omega) (by omega) (by omega)
 split
 ·exact comm_J 1000 (by omega) awake26 _ _ _ _ _ _ _ _ _ _ _ _ _ (by omega) (by omega) (by omega) (by simp)
 ·exact comm_J 1000 (by omega) awake26 _ _ _ _ _ _ _ _ _ _ _ _ _ (by omega) (by omega) (by omega) (by omega)
end Go.TF
