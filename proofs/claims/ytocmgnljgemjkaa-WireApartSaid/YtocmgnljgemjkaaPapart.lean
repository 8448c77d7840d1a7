/- Plain laws of layer 2: different values have different bytes. -/
import Derived.Test.YtocmgnljgemjkaaPback
set_option linter.unusedVariables false
set_option linter.unusedSimpArgs false
namespace Go.TF
open Go Go.Abs

theorem enc_inj {a b : Int} (ha : InR .i64 a) (hb : InR .i64 b) (h : enc a = enc b) : a = b := by
  rw [← decI_enc a ha, ← decI_enc b hb, h]
def encB (l : List Int) : List Int := enc l.length ++ l
def encN (l : List Int) : List Int := enc l.length ++ l.flatMap enc
theorem app_inj {a b x y : List Int} (hl : a.length = b.length) : a ++ x = b ++ y ↔ a = b ∧ x = y := by
  constructor
  · exact fun h => List.append_inj h hl
  · rintro ⟨rfl, rfl⟩; rfl
theorem encB_inj {s r x y : List Int} (hs : s.length ≤ 100000) (hr : r.length ≤ 100000) : encB s ++ x = encB r ++ y ↔ s = r ∧ x = y := by
  constructor
  · intro h
    unfold encB at h
    rw [List.append_assoc, List.append_assoc] at h
    obtain ⟨h1, h2⟩ := List.append_inj h (by rw [enc_length, enc_length])
    have := enc_inj (InR_i64 (by omega) (by omega)) (InR_i64 (by omega) (by omega)) h1
    exact List.append_inj h2 (by omega)
  · rintro ⟨rfl, rfl⟩; rfl
theorem encN_inj {s r : List Int} (hs : ∀ x ∈ s, InR .i64 x) (hr : ∀ x ∈ r, InR .i64 x) (hs1 : s.length ≤ 100000) (hr1 : r.length ≤ 100000) : encN s = encN r ↔ s = r := by
  constructor
  · intro h
    unfold encN at h
    obtain ⟨h1, h2⟩ := List.append_inj h (by rw [enc_length, enc_length])
    have := enc_inj (InR_i64 (by omega) (by omega)) (InR_i64 (by omega) (by omega)) h1
    have hl : s.length = r.length := by omega
    rw [← decs_flat s hs, ← decs_flat r hr, h2, hl]
  · rintro rfl; rfl
theorem all_inj {a b : Int} {s r l m : List Int} (ha : InR .i64 a) (hb : InR .i64 b) (hs : s.length ≤ 100000) (hr : r.length ≤ 100000) (hl : ∀ x ∈ l, InR .i64 x) (hm : ∀ x ∈ m, InR .i64 x) (hl1 : l.length ≤ 100000) (hm1 : m.length ≤ 100000) :
    enc a ++ (encB s ++ encN l) = enc b ++ (encB r ++ encN m) ↔ a = b ∧ s = r ∧ l = m := by
  rw [app_inj (by rw [enc_length, enc_length]), encB_inj hs hr, encN_inj hl hm hl1 hm1]
  constructor
  · rintro ⟨h1, h2⟩; exact ⟨enc_inj ha hb h1, h2⟩
  · rintro ⟨rfl, h2⟩; exact ⟨rfl, h2⟩
theorem enc_byte (v : Int) : ∀ j, ∀ x ∈ encL v j, 0 ≤ x ∧ x ≤ 255
  | 0, x, h => by simp [encL] at h
  | j + 1, x, h => by
    rw [encL] at h
    rcases List.mem_cons.1 h with rfl | h
    · omega
    · exact enc_byte v j x h
theorem written (a : Int) (s l : List Int) (hs : ∀ x ∈ s, 0 ≤ x ∧ x ≤ 255) (hs1 : s.length ≤ 1000) (hl : l.length ≤ 900) :
    ∃ b, wire_Int 1000 [] a = some (enc a) ∧ wire_Text 1000 (enc a) (ofI s) = some (enc a ++ encB s) ∧ wire_Ints 1000 (enc a ++ encB s) l = some b ∧ b = enc a ++ (encB s ++ encN l) ∧ (∀ x ∈ b, 0 ≤ x ∧ x ≤ 255) := by
  have hz : (ofI s).size = s.length := by simp [ofI, ByteArray.size]
  refine ⟨enc a ++ (encB s ++ encN l), ?_, ?_, ?_, rfl, ?_⟩
  · rw [Int_eq _ (by omega) _ _ (by simp)]; simp
  · rw [Text_eq _ (by omega) _ _ (by simp [enc_length]) (by omega), hz, bI_ofI s hs]; simp [encB]
  · rw [Ints_eq _ (by omega) _ _ (by simp [enc_length, encB]; omega) (by omega) (by omega)]; simp [encB, encN]
  · intro x hx
    simp only [encB, encN, List.mem_append, List.mem_flatMap, enc] at hx
    rcases hx with h | (h | h) | h | ⟨y, _, h⟩
    · exact enc_byte _ _ _ h
    · exact enc_byte _ _ _ h
    · exact hs x h
    · exact enc_byte _ _ _ h
    · exact enc_byte _ _ _ h

theorem WireApart_true (v0 v1 : List Int) (_ : Fit (.lst false false (v0.map (.int .i64)))) (_ : Fit (.lst false false (v1.map (.int .i64)))) : law02_WireApart 1000 v0 v1 = some true := by
  unfold law02_WireApart
  rw [Light_eq, bnd1_some]
  by_cases h0 : ¬ (v0.length : Int) ≤ 400
  · rw [if_pos (by simp; omega), awake02]; rfl
  rw [if_neg (by simp; omega), Light_eq, bnd1_some]
  by_cases h1 : ¬ (v1.length : Int) ≤ 400
  · rw [if_pos (by simp; omega), awake02]; rfl
  rw [if_neg (by simp; omega), Roll_eq, bnd2_some, Roll_eq, bnd2_some]
  have P0 : Pos 0 := by decide
  obtain ⟨a, p, e1, hp, ha⟩ := Next_eq 1000 v0 0 5 (by omega) P0
  have ha := ha (by omega) (by omega)
  obtain ⟨s, q, e2, hq, hs, hs1⟩ := Bytes_eq 1000 v0 p 4 (by omega) hp (by omega) (by omega) (by omega)
  obtain ⟨l, r, e3, hr, _, hl, hl1⟩ := Some_eq 1000 v0 q 4 (by omega) hq (by omega) (by omega) (by omega)
  obtain ⟨a', p', e1', hp', ha'⟩ := Next_eq 1000 v1 0 5 (by omega) P0
  have ha' := ha' (by omega) (by omega)
  obtain ⟨s', q', e2', hq', hs', hs1'⟩ := Bytes_eq 1000 v1 p' 4 (by omega) hp' (by omega) (by omega) (by omega)
  obtain ⟨l', r', e3', hr', _, hl', hl1'⟩ := Some_eq 1000 v1 q' 4 (by omega) hq' (by omega) (by omega) (by omega)
  obtain ⟨b, f1, f2, f3, f4, f5⟩ := written a s l hs (by omega) (by omega)
  obtain ⟨b', f1', f2', f3', f4', f5'⟩ := written a' s' l' hs' (by omega) (by omega)
  rw [e1, bnd2_some, e2, bnd2_some, e3, bnd2_some, e1', bnd2_some, e2', bnd2_some, e3', bnd2_some, f1, bnd1_some, f2, bnd1_some, f3, bnd1_some, f1', bnd1_some, f2', bnd1_some, f3', bnd1_some, awake02, bnd1_some, if_pos rfl,
    strEq_ofI s s' hs hs', strEq_ofI b b' f5 f5', sameInts_eq _ _ _ (by omega) (by omega), bnd1_some]
  have key : b = b' ↔ a = a' ∧ s = s' ∧ l = l' := by
    rw [f4, f4']
    exact all_inj (InR_i64 (by omega) (by omega)) (InR_i64 (by omega) (by omega)) (by omega) (by omega) (fun x hx => by have := hl x hx; exact InR_i64 (by omega) (by omega)) (fun x hx => by have := hl' x hx; exact InR_i64 (by omega) (by omega)) (by omega) (by omega)
  by_cases g1 : a = a'
  · rw [if_pos g1]
    by_cases g2 : s = s'
    · rw [if_pos (by simp [g2])]
      by_cases g3 : l = l' <;> simp [key, g1, g2, g3]
    · rw [if_neg (by simp [g2])]
      simp [key, g1, g2]
  · rw [if_neg g1]
    simp [key, g1]
end Go.TF
