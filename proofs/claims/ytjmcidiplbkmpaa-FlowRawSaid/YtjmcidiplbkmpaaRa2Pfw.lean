/- Plain laws: which flows the program calls right, and their value. -/
import Derived.Test.YtjmcidiplbkmpaaRa2Prv
set_option linter.unusedVariables false
set_option linter.unusedSimpArgs false
set_option maxRecDepth 100000
namespace Go.TF
open Go Go.Abs
theorem fSur_L1 (k N : Nat) (A : List api_Arc) (f : List Int) (h : NV N A) (hl : f.length = A.length) (hr : ∀ (j : Nat) (h1 : j < A.length) (h2 : j < f.length), 0 ≤ f[j] ∧ f[j] ≤ A[j].Cap) : ∀ (m i n : Nat), i + m = A.length → m < n →
 flow_surplus.L1 k A f n (i : Int) (tabG N fun v => Mf.sur (ar (A.take i)) (f.take i) v) = some (tabG N fun v => Mf.sur (ar A) f v)
 | 0, i, n + 1, e, _ => by
  have : i = A.length := by omega
  subst this
  rw [flow_surplus.L1, if_neg (by omega), List.take_of_length_le (Nat.le_refl _), List.take_of_length_le (by omega)]
 | m + 1, i, n + 1, e, hn => by
  have hiA : i < A.length := by omega
  have hi : i < f.length := by omega
  have ok := h.ok _ (List.getElem_mem hiA)
  have hA := h.len
  have rr := hr i hiA hi
  have B := fun v => sur_bound (A := A) (f := f) (fun a ha => (h.ok a ha).2.2.2.2.2.2.2.2) v i (by omega) (by omega) (fun j h1 h2 _ => hr j h1 h2)
  have b1 := B A[i].From; have b2 := B A[i].To
  rw [flow_surplus.L1, if_pos (by omega), idx_pos hiA, chk_pos (by rw [tabG_len]; omega), idx_tabG ok.1 ok.2.1, idx_pos hi, chk_pos (by rw [tabG_len]; omega), w64 (by omega) (by omega), tabG_set ok.1, chk_pos (by rw [tabG_len]; omega), idx_tabG ok.2.2.1 ok.2.2.2.1, chk_pos (by rw [tabG_len]; omega), if_neg (fun z => ok.2.2.2.2.1 z.symm), sc64 i (by omega), tabG_set ok.2.2.1, w64 (n := Mf.sur (ar (A.take i)) (f.take i) A[i].To - f[i]) (by omega) (by omega)]
  have ih := fSur_L1 k N A f h hl hr m (i + 1) n (by omega) (by omega)
  rw [← ih]
  congr 2
  funext v
  rw [sur_snoc A f i hiA hi]
  unfold Mf.b2
  by_cases e1 : v = A[i].To
  ·subst e1
   rw [if_pos rfl, if_neg (fun z => ok.2.2.2.2.1 z), if_pos rfl]; omega
  ·rw [if_neg e1]
   by_cases e2 : v = A[i].From
   ·subst e2
    rw [if_pos rfl, if_pos rfl, if_neg (fun z => e1 z.symm)]; omega
   ·rw [if_neg e2, if_neg (fun z => e2 z.symm), if_neg (fun z => e1 z.symm)]; omega
theorem fSur_eq (k N : Nat) (A : List api_Arc) (f : List Int) (h : NV N A) (hl : f.length = A.length) (hr : ∀ (j : Nat) (h1 : j < A.length) (h2 : j < f.length), 0 ≤ f[j] ∧ f[j] ≤ A[j].Cap) (hk : 1200 < k) : flow_surplus k (N : Int) A f = some (tabG N fun v => Mf.sur (ar A) f v) := by
 have := h.n130; have := h.len
 unfold flow_surplus
 rw [chk_pos (by omega), show ((N : Int)).toNat = N by omega, tabG_rep]
 exact fSur_L1 k N A f h hl hr A.length 0 k (by omega) (by omega)
theorem nz_loop (k : Nat) (l : List Int) (h9 : l.length ≤ 1000000) : ∀ (m i n : Nat), i + m = l.length → m < n → ∃ r, slices_IndexFunc_int_int_Valid_1.L1 k l n (i : Int) = some r ∧ (0 ≤ r ↔ (l.drop i).all (fun x => decide (x = 0)) = false)
 | 0, i, n + 1, e, _ => ⟨-1, by rw [slices_IndexFunc_int_int_Valid_1.L1, if_neg (by omega)], by
  rw [List.drop_of_length_le (by omega)]
  constructor
  ·intro h; omega
  ·intro h; cases h⟩
 | m + 1, i, n + 1, e, hn => by
  have hi : i < l.length := by omega
  obtain ⟨r, e1, e2⟩ := nz_loop k l h9 m (i + 1) n (by omega) (by omega)
  rw [slices_IndexFunc_int_int_Valid_1.L1, if_pos (by omega), idx_pos hi, flow_Valid_1, bnd1_some, List.drop_eq_getElem_cons hi, List.all_cons]
  by_cases c : l[i] = 0
  ·rw [if_neg (by simp [c]), sc64 i (by omega)]
   exact ⟨r, e1, by rw [e2, decide_eq_true c, Bool.true_and]⟩
  ·rw [if_pos (by simpa using c)]
   exact ⟨i, rfl, by rw [decide_eq_false c]; simp⟩
theorem fV_L1 (k N : Nat) (A : List api_Arc) (f : List Int) (h : NV N A) (hl : f.length = A.length) (hk : 1300 < k) : ∀ (m i n : Nat), i + m = A.length → m < n → (∀ (j : Nat) (h1 : j < A.length) (h2 : j < f.length), j < i → 0 ≤ f[j] ∧ f[j] ≤ A[j].Cap) →
 flow_Valid.L1 k (N : Int) A f n (i : Int) = some (inB A f && zeroB N A f)
 | 0, i, n + 1, e, _, hr => by
  have hN := h.n130; have h2 := h.two
  have : i = A.length := by omega
  subst this
  have hr' : ∀ (j : Nat) (h1 : j < A.length) (h2 : j < f.length), 0 ≤ f[j] ∧ f[j] ≤ A[j].Cap := fun j h1 h2 => hr j h1 h2 h1
  rw [flow_Valid.L1, if_neg (by omega), fSur_eq k N A f h hl hr' (by omega), bnd1_some, chk_pos (by rw [tabG_len]; omega), slices_ContainsFunc_int_int_Valid_1, slices_IndexFunc_int_int_Valid_1]
  obtain ⟨r, e1, e2⟩ := nz_loop k ((tabG N fun v => Mf.sur (ar A) f v).drop ((2 : Int).toNat)) (by rw [List.length_drop, tabG_len]; omega) _ 0 k (Nat.zero_add _) (by rw [List.length_drop, tabG_len]; omega)
  have e1 : slices_IndexFunc_int_int_Valid_1.L1 k ((tabG N fun v => Mf.sur (ar A) f v).drop ((2 : Int).toNat)) k 0 = some r := e1
  rw [e1, bnd1_some, bnd1_some, (inB_iff hl).2 hr', Bool.true_and]
  congr 1
  rw [List.drop_zero] at e2
  have q : zeroB N A f = ((tabG N fun v => Mf.sur (ar A) f v).drop ((2 : Int).toNat)).all (fun x => decide (x = 0)) := by
   rw [Bool.eq_iff_iff]
   unfold zeroB
   rw [List.all_eq_true, List.all_eq_true]
   constructor
   ·intro z x hx
    obtain ⟨j, hj, rfl⟩ := List.mem_iff_getElem.1 hx
    rw [List.length_drop, tabG_len] at hj
    rw [List.getElem_drop, tabG_get]
    have := z ((2 : Int).toNat + j) (by rw [List.mem_range]; omega)
    rw [decide_eq_true_eq] at this ⊢
    rcases this with w | w
    ·have : (2 : Int).toNat = 2 := rfl
     omega
    ·exact w
   ·intro z v hv
    rw [List.mem_range] at hv
    rw [decide_eq_true_eq]
    by_cases c : v < 2
    ·exact .inl c
    ·right
     have := z (Mf.sur (ar A) f (v : Int)) (by
      rw [List.mem_iff_getElem]
      refine ⟨v - 2, by rw [List.length_drop, tabG_len]; exact Nat.sub_lt_sub_right (by omega) hv, ?_⟩
      rw [List.getElem_drop, tabG_get]
      congr 1
      have : (2 : Int).toNat = 2 := rfl
      omega)
     simpa using this
  rw [q]
  cases c : ((tabG N fun v => Mf.sur (ar A) f v).drop ((2 : Int).toNat)).all (fun x => decide (x = 0)) with
  | true =>
   have : ¬ 0 ≤ r := fun h => by rw [e2.1 h] at c; cases c
   rw [decide_eq_false this]; rfl
  | false => rw [decide_eq_true (e2.2 c)]; rfl
 | m + 1, i, n + 1, e, hn, hr => by
  have hi : i < f.length := by omega
  have hiA : i < A.length := by omega
  have hA := h.len
  have ih := fV_L1 k N A f h hl hk m (i + 1) n (by omega) (by omega)
  rw [flow_Valid.L1, if_pos (by omega), idx_pos hiA, idx_pos hi, lIn_eq, bnd1_some]
  by_cases c : 0 ≤ f[i] ∧ f[i] ≤ A[i].Cap
  ·rw [decide_eq_true c, if_neg (by simp), sc64 i (by omega)]
   exact ih fun j h1 h2 h3 => by
    by_cases z : j = i
    ·subst z; exact c
    ·exact hr j h1 h2 (by omega)
  ·rw [decide_eq_false c, if_pos (by rfl)]
   cases q : inB A f with
   | false => rfl
   | true => exact absurd ((inB_iff hl).1 q i hiA hi) c
theorem fValid_eq (k : Nat) (N : Int) (A : List api_Arc) (f : List Int) (hk : 1300 < k) : flow_Valid k N A f = some (flB N A f) := by
 unfold flow_Valid flB
 rw [fCheck_eq k N A (by omega), bnd1_some]
 cases h : chkN N A with
 | false => rw [if_pos (by simp)]; rfl
 | true =>
  obtain ⟨n, rfl, nv⟩ := (chkN_iff _ _).1 h
  have := nv.n130; have := nv.len
  rw [if_neg (by simp)]
  by_cases hl : f.length = A.length
  ·rw [if_neg (by omega), decide_eq_true hl]
   exact fV_L1 k n A f nv hl (by omega) A.length 0 k (by omega) (by omega) (fun j _ _ h => by omega)
  ·rw [if_pos (by omega), decide_eq_false hl]; rfl
theorem fValue_eq (k : Nat) (N : Int) (A : List api_Arc) (f : List Int) (hk : 1300 < k) : flow_Value k N A f = some (if flB N A f then Mf.val (ar A) f else 0) := by
 unfold flow_Value
 rw [fValid_eq k N A f hk, bnd1_some]
 cases h : flB N A f with
 | false => rfl
 | true =>
  obtain ⟨n, rfl, nv, fl⟩ := (flB_iff _ _ _).1 h
  have hl := fl.len
  rw [ar_len] at hl
  have fb := FB.of fl
  have := nv.two
  rw [if_neg (by simp), fSur_eq k n A f nv hl (fun j h1 h2 => ⟨fb.lo j h2, fb.hi j h2 h1⟩) (by omega), bnd1_some, chk_pos (by rw [tabG_len]; exact ⟨by omega, by simpa using (by omega : 0 < n)⟩), idx_tabG (by omega) (by omega)]
  rfl
theorem fValue_flow (k N : Nat) (A : List api_Arc) (f : List Int) (h : NV N A) (hf : Mf.Flow N (ar A) f) (hk : 1300 < k) : flow_Value k (N : Int) A f = some (Mf.val (ar A) f) := by
 rw [fValue_eq k N A f hk, if_pos ((flB_iff _ _ _).2 ⟨N, rfl, h, hf⟩)]
end Go.TF
