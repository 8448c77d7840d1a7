/- The law GuardianBack. -/
import Derived.Test.YtepdfenlkeaefaaGPgall
set_option linter.unusedVariables false
set_option linter.unusedSimpArgs false
namespace Go.TF
open Go Go.Abs
def prevB (num : Int) : ByteArray := if 0 < num then ofI (List.replicate 32 0) else ByteArray.mk #[]
theorem prevB_size (num : Int) (h : 0 < num) : (prevB num).size = 32 := by unfold prevB; rw [if_pos h]; simp [ofI, ByteArray.size]
theorem allV_range (l : List Int) (h : ∀ x ∈ l, 0 ≤ x ∧ x < 64) : allV l = true := by
 refine List.all_eq_true.2 fun x hx => ?_
 have := h x hx
 simp only [bIn, Bool.and_eq_true, decide_eq_true_eq]; omega
theorem chk_guard (o num n : Int) (g : List Int) (h : okG o n g = true) (h0 : 0 ≤ num) (h1 : num ≤ 199) : chkS o num (prevB num) 0 12 n 0 0 g [] (ByteArray.mk #[]) = 0 := by
 have hk := okG_key h
 have hl := okG_len h
 have hg : allV g = true := by
  simp only [okG, Bool.and_eq_true] at h
  exact allV_range g (asc_range h.1.1)
 have hn : 1 ≤ n ∧ n ≤ 12 := by
  simp only [okG, endG, Bool.and_eq_true, decide_eq_true_eq] at h
  omega
 unfold chkS
 rw [if_pos (by simp only [bIn, Bool.and_eq_true, decide_eq_true_eq]; omega), if_pos (by decide), if_pos (by decide), if_pos, if_pos ⟨by omega, by simp, Nat.zero_le _⟩, if_pos]
 ·unfold formB
  have : (if num = 0 then strEq (prevB num) (ByteArray.mk #[]) else if 0 < num then decide ((prevB num).size = 32) else true) = true := by
   by_cases a : num = 0
   ·subst a; rfl
   ·rw [if_neg a, if_pos (by omega), prevB_size num (by omega)]; rfl
  rw [this]
  rfl
 ·unfold numsB
  rw [hg]
  have hm : meantB o 0 12 n 0 0 = true := by rfl
  rw [hm]
  have e1 : bIn num 0 199 = true := by simp only [bIn, Bool.and_eq_true, decide_eq_true_eq]; omega
  have e2 : bIn n 0 1099511627776 = true := by simp only [bIn, Bool.and_eq_true, decide_eq_true_eq]; omega
  rw [e1, e2]
  rfl
def guardS (o num n : Int) (g : List Int) : api_Statement := ⟨o, num, prevB num, 0, 12, n, 0, 0, g, [], ByteArray.mk #[], o, digS o num (prevB num) 0 12 n 0 0 g [] (ByteArray.mk #[])⟩
theorem ofS_guard (o num n : Int) (g : List Int) (h : okG o n g = true) (h0 : 0 ≤ num) (h1 : num ≤ 199) : ofS (guardS o num n g) = (o, n, g, 0) := by
 unfold ofS ofF guardS
 simp only
 rw [if_neg (by rw [chk_guard o num n g h h0 h1]; simp), if_pos]
 unfold sealB
 rw [strEq_self, h]
 simp [strEq_self]
theorem ofS_key (o num n key : Int) (g : List Int) (h : okG o n g = true) (h0 : 0 ≤ num) (h1 : num ≤ 199) (hk : ¬ key = o) : ofS { guardS o num n g with Seal_Key := key } = (0, 0, [], 47) := by
 unfold ofS ofF guardS
 simp only
 rw [if_neg (by rw [chk_guard o num n g h h0 h1]; simp), if_neg]
 unfold sealB
 simp [hk]
theorem GuardianBack_ex (v0 : List Int) (v1 : Int) (h0 : Fit (.lst false false (v0.map (.int .i64)))) (h1 : Fit (.int .u8 v1)) : ∃ k, law34_GuardianBack k v0 v1 = some true := by
 have hv1 := InR.u8 (by simpa [Fit] using h1)
 obtain ⟨k, hk⟩ : ∃ k, 10000 < k := ⟨20000, by omega⟩
 refine ⟨k, ?_⟩
 have aw := awake34' k (by omega)
 unfold law34_GuardianBack mill_Light mill_Roll
 rw [bnd1_some]
 by_cases a0 : ¬ (v0.length : Int) ≤ 400
 ·rw [if_pos (by simp; omega), aw]; rfl
 rw [if_neg (by simp; omega), Roll_eq, bnd2_some, bnd2_some]
 obtain ⟨o, n, g, q, e, hg, hq⟩ := guard_eq k (by omega) v0 0 (by omega) (by decide)
 have b4 : ∀ f : Int → Int → List Int → Int → Option Bool, bnd4 (some (o, n, g, q)) f = f o n g q := fun _ => rfl
 rw [e, b4, Draft_eq k o n g (by omega) (by omega)]
 cases hv : okG o n g
 ·have hd : draftF o n g = (0, 0, 0, 0, [], [], 47) := by unfold draftF; rw [hv]; rfl
  have b7 : ∀ f : Int → Int → Int → Int → List Int → List api_Pin → Int → Option Bool, bnd7 (some ((0 : Int), (0 : Int), (0 : Int), (0 : Int), ([] : List Int), ([] : List api_Pin), (47 : Int))) f = f 0 0 0 0 [] [] 47 := fun _ => rfl
  rw [hd, b7, gValid_eq k o n g (by omega) (by omega), hv, bnd1_some, if_pos (by simp), if_pos rfl, aw]; rfl
 have hd : draftF o n g = (12, n, 0, 0, g, [], 0) := by unfold draftF; rw [hv]; rfl
 have b7 : ∀ f : Int → Int → Int → Int → List Int → List api_Pin → Int → Option Bool, bnd7 (some ((12 : Int), n, (0 : Int), (0 : Int), g, ([] : List api_Pin), (0 : Int))) f = f 12 n 0 0 g [] 0 := fun _ => rfl
 have hok := okG_key hv
 have hl := okG_len hv
 rw [hd, b7, gValid_eq k o n g (by omega) (by omega), hv, bnd1_some, if_neg (by simp), mStatement_eq k hk _ _ _ _ _ _ _ _ hg, bnd1_some]
 have hkey : Int.tmod (IntKind.wrap .i64 (IntKind.wrap .i64 (o + 1) + Int.tmod (IntKind.wrap .i64 v1) 60)) 64 = (o + 1 + v1 % 60) % 64 := by
  rw [w64 (n := o + 1) (by omega) (by omega), w64 (n := v1) (by omega) (by omega), Int.tmod_eq_emod_of_nonneg (a := v1) (by omega), w64 (by omega) (by omega), Int.tmod_eq_emod_of_nonneg (by omega)]
 have hs : FitK k (guardS o 0 n g) := ⟨by show g.length ≤ _; omega, by show g.length < k; omega, by show ([] : List api_Pin).length < k; simp; omega⟩
 have t1 := OfS_p k hk _ hs
 have hs2 : FitK k { guardS o 0 n g with Seal_Key := (o + 1 + v1 % 60) % 64 } := hs
 have t2 := OfS_p k hk _ hs2
 rw [ofS_guard o 0 n g hv (by omega) (by omega)] at t1
 rw [ofS_key o 0 n _ g hv (by omega) (by omega) (by omega)] at t2
 rw [hkey]
 have b4' : ∀ (a b : Int) (c : List Int) (d : Int) (f : Int → Int → List Int → Int → Option Bool), bnd4 (some (a, b, c, d)) f = f a b c d := fun _ _ _ _ _ => rfl
 have t1' := t1
 have t2' := t2
 simp only [guardS, prevB] at t1' t2'
 simp only
 rw [t1', t2', b4', b4']
 simp only [eq_self, if_true]
 rw [same23_refl _ _ (by omega) (by omega), bnd1_some, if_pos rfl]
 have ha := All_p k hk [{ guardS o 0 n g with Seal_Key := (o + 1 + v1 % 60) % 64 }] (by simp) (by simp; omega) (fun s h => by simp only [List.mem_singleton] at h; subst h; exact hs2)
 have hn : ofG { guardS o 0 n g with Seal_Key := (o + 1 + v1 % 60) % 64 } = none := by
  unfold ofG
  rw [ofS_key o 0 n _ g hv (by omega) (by omega) (by omega)]; rfl
 have hz : allG [{ guardS o 0 n g with Seal_Key := (o + 1 + v1 % 60) % 64 }] = [] := by
  unfold allG lastG stepG
  simp only [List.foldl_cons, List.foldl_nil, hn]
  simp
 rw [hz] at ha
 simp only [guardS, prevB] at ha
 rw [ha, bnd1_some, if_pos (by simp), aw]
 rfl
end Go.TF
