/- Plain laws of layer 24: sets and numbers. -/
import Derived.Test.Ytocmgnljgemjkaa2Pros
set_option linter.unusedVariables false
set_option linter.unusedSimpArgs false
namespace Go.TF
open Go Go.Abs

theorem maxLen_le : maxLen = 9223372036854775807 := by decide

theorem eq_sets {p q : Int → Bool} (h : ∀ j : Int, 0 ≤ j → j < 64 → p j = q j) : sel p = sel q := sel_congr fun j hj => h j (by omega) (by omega)
theorem mem_setJ {a b : List Int} {x : Int} : x ∈ setJ a b ↔ 0 ≤ x ∧ x < 64 ∧ (x ∈ a ∨ x ∈ b) := by
  unfold setJ; rw [mem_sel]; simp
theorem mem_setM {a b : List Int} {x : Int} : x ∈ setM a b ↔ 0 ≤ x ∧ x < 64 ∧ (x ∈ a ∧ ¬ x ∈ b) := by
  unfold setM; rw [mem_sel]; simp
theorem boolEq {p q : Bool} (h : p = true ↔ q = true) : p = q := by cases p <;> cases q <;> simp_all

/-! ### numbers -/
def encStep (v5 : List Int) (x : Int) : List Int :=
  v5.set (x / 32).toNat (bitsV .or .i64 (v5.getD (x / 32).toNat 0) (IntKind.wrap .i64 (1 * 2 ^ (min ((x % 32).toNat) 64))))
theorem encStep_len (v5 : List Int) (x : Int) : (encStep v5 x).length = v5.length := by simp [encStep]
def encF (l : List Int) : List Int × Int := if okR l = true then (l.foldl encStep [0, 0], 0) else ([], 43)
theorem td32 (x : Int) (h0 : 0 ≤ x) (h1 : x < 64) : IntKind.wrap .i64 (Int.tdiv x 32) = x / 32 := by
  rw [Int.tdiv_eq_ediv_of_nonneg h0, w64 (by omega) (by omega)]
theorem tm32 (x : Int) (h0 : 0 ≤ x) : Int.tmod x 32 = x % 32 := Int.tmod_eq_emod_of_nonneg h0
theorem encode_loop (k : Nat) (l : List Int) (h9 : l.length ≤ 9223372036854775807) (hr : ∀ x ∈ l, 0 ≤ x ∧ x < 64) : ∀ (m i n : Nat) (v5 : List Int), i + m = l.length → m < n → v5.length = 2 → roster_Encode.L1 k l n (i : Int) v5 = some ((l.drop i).foldl encStep v5, 0)
  | 0, i, n + 1, v5, h, _, _ => by rw [roster_Encode.L1, if_neg (by omega), List.drop_of_length_le (by omega)]; rfl
  | m + 1, i, n + 1, v5, h, hn, h2 => by
    have h1 : i < l.length := by omega
    have hx := hr l[i] (List.getElem_mem h1)
    rw [roster_Encode.L1, if_pos (by omega), idx_pos h1, td32 _ hx.1 hx.2, tm32 _ hx.1, chk_pos (by omega)]
    obtain ⟨q, hq⟩ := Int.eq_ofNat_of_zero_le (show 0 ≤ l[i] / 32 by omega)
    have hq2 : q < v5.length := by omega
    rw [hq, idx_pos hq2, chk_pos (by omega), chk_pos (by omega), succ64 _ (by omega), List.drop_eq_getElem_cons h1, List.foldl_cons]
    have e : encStep v5 l[i] = v5.set ((q : Nat) : Int).toNat (bitsV .or .i64 v5[q] (IntKind.wrap .i64 (1 * 2 ^ (min ((l[i] % 32).toNat) 64)))) := by
      unfold encStep
      rw [hq]
      simp [List.getD_eq_getElem?_getD, hq2]
    rw [← e]
    exact encode_loop k l h9 hr m (i + 1) n _ (by omega) (by omega) (by rw [encStep_len]; exact h2)
theorem Encode_eq (k : Nat) (l : List Int) (hk : l.length < k) (h9 : l.length ≤ 9223372036854775807) : roster_Encode k l = some (encF l) := by
  unfold roster_Encode encF
  rw [Valid_eq k l hk h9, bnd1_some]
  by_cases h : okR l = true
  · rw [if_neg (by simp [h]), if_pos h]
    have ha : asc (-1) l = true := by simp [okR] at h; exact h.2
    have := encode_loop k l h9 (asc_range ha) l.length 0 k [0, 0] (by omega) hk rfl
    simpa using this
  · rw [if_pos (by simp [h]), if_neg h]
theorem refEncode_loop (k : Nat) (l : List Int) (h9 : l.length ≤ 9223372036854775807) (hr : ∀ x ∈ l, 0 ≤ x ∧ x < 64) : ∀ (m i n : Nat) (v5 : List Int), i + m = l.length → m < n → v5.length = 2 → ref24_Encode.L1 k l n (i : Int) v5 = some ((l.drop i).foldl encStep v5, 0)
  | 0, i, n + 1, v5, h, _, _ => by rw [ref24_Encode.L1, if_neg (by omega), List.drop_of_length_le (by omega)]; rfl
  | m + 1, i, n + 1, v5, h, hn, h2 => by
    have h1 : i < l.length := by omega
    have hx := hr l[i] (List.getElem_mem h1)
    rw [ref24_Encode.L1, if_pos (by omega), idx_pos h1, td32 _ hx.1 hx.2, tm32 _ hx.1, wu64 (n := l[i] % 32) (by omega) (by omega), chk_pos (by omega)]
    obtain ⟨q, hq⟩ := Int.eq_ofNat_of_zero_le (show 0 ≤ l[i] / 32 by omega)
    have hq2 : q < v5.length := by omega
    rw [hq, idx_pos hq2, chk_pos (by omega), chk_pos (by omega), succ64 _ (by omega), List.drop_eq_getElem_cons h1, List.foldl_cons]
    have e : encStep v5 l[i] = v5.set ((q : Nat) : Int).toNat (bitsV .or .i64 v5[q] (IntKind.wrap .i64 (1 * 2 ^ (min ((l[i] % 32).toNat) 64)))) := by
      unfold encStep
      rw [hq]
      simp [List.getD_eq_getElem?_getD, hq2]
    rw [← e]
    exact refEncode_loop k l h9 hr m (i + 1) n _ (by omega) (by omega) (by rw [encStep_len]; exact h2)
theorem refEncode_eq (k : Nat) (l : List Int) (hk : l.length < k) (h9 : l.length ≤ 9223372036854775807) : ref24_Encode k l = some (encF l) := by
  unfold ref24_Encode encF
  rw [refValid_eq k l hk h9, bnd1_some]
  by_cases h : okR l = true
  · rw [if_neg (by simp [h]), if_pos h]
    have ha : asc (-1) l = true := by simp [okR] at h; exact h.2
    have := refEncode_loop k l h9 (asc_range ha) l.length 0 k [0, 0] (by omega) hk rfl
    simpa using this
  · rw [if_pos (by simp [h]), if_neg h]

def dbit (l : List Int) (j : Int) : Bool := decide (bitsV .and .i64 (Int.fdiv (l.getD (j / 32).toNat 0) (2 ^ (min ((j % 32).toNat) 64))) 1 = 1)
theorem decode_loop (k : Nat) (l : List Int) (hl : l.length = 2) : ∀ (m i n : Nat) (acc : List Int), i + m = 64 → m < n → acc.length ≤ i → roster_Decode.L2 k l n (i : Int) acc = some (acc ++ selF (dbit l) m i, 0)
  | 0, i, n + 1, acc, h, _, _ => by rw [roster_Decode.L2, if_neg (by omega)]; simp [selF]
  | m + 1, i, n + 1, acc, h, hn, ha => by
    rw [roster_Decode.L2, if_pos (by omega), td32 _ (by omega) (by omega), tm32 _ (by omega)]
    have hq : ((i : Int) / 32) = ((i / 32 : Nat) : Int) := by omega
    have hq2 : i / 32 < l.length := by omega
    rw [hq, idx_pos hq2, chk_pos (by omega)]
    unfold roster_Decode.J3
    dsimp only
    rw [succ64 _ (by omega), chk_pos (by simp only [List.length_cons, List.length_nil]; omega), decode_loop k l hl m (i + 1) n _ (by omega) (by omega) (by simp only [List.length_append, List.length_cons, List.length_nil]; omega), decode_loop k l hl m (i + 1) n acc (by omega) (by omega) (by omega), selF]
    have e : (dbit l (i : Int) = true) ↔ (bitsV .and .i64 (Int.fdiv l[i / 32] (2 ^ (min (((i : Int) % 32).toNat) 64))) 1 = 1) := by
      unfold dbit
      rw [hq, Int.toNat_natCast, List.getD_eq_getElem?_getD, List.getElem?_eq_getElem hq2, Option.getD_some, decide_eq_true_eq]
    by_cases hd : dbit l (i : Int) = true
    · rw [if_pos (e.1 hd), if_pos hd]; simp
    · rw [if_neg (fun h => hd (e.2 h)), if_neg hd]
theorem refDecode_loop (k : Nat) (l : List Int) (hl : l.length = 2) : ∀ (m i n : Nat) (acc : List Int), i + m = 64 → m < n → acc.length ≤ i → ref24_Decode.L2 k l n (i : Int) acc = some (acc ++ selF (dbit l) m i, 0)
  | 0, i, n + 1, acc, h, _, _ => by rw [ref24_Decode.L2, if_neg (by omega)]; simp [selF]
  | m + 1, i, n + 1, acc, h, hn, ha => by
    rw [ref24_Decode.L2, if_pos (by omega), td32 _ (by omega) (by omega), tm32 _ (by omega), wu64 (n := (i : Int) % 32) (by omega) (by omega)]
    have hq : ((i : Int) / 32) = ((i / 32 : Nat) : Int) := by omega
    have hq2 : i / 32 < l.length := by omega
    rw [hq, idx_pos hq2, chk_pos (by omega)]
    unfold ref24_Decode.J3
    dsimp only
    rw [succ64 _ (by omega), chk_pos (by simp only [List.length_cons, List.length_nil]; omega), refDecode_loop k l hl m (i + 1) n _ (by omega) (by omega) (by simp only [List.length_append, List.length_cons, List.length_nil]; omega), refDecode_loop k l hl m (i + 1) n acc (by omega) (by omega) (by omega), selF]
    have e : (dbit l (i : Int) = true) ↔ (bitsV .and .i64 (Int.fdiv l[i / 32] (2 ^ (min (((i : Int) % 32).toNat) 64))) 1 = 1) := by
      unfold dbit
      rw [hq, Int.toNat_natCast, List.getD_eq_getElem?_getD, List.getElem?_eq_getElem hq2, Option.getD_some, decide_eq_true_eq]
    by_cases hd : dbit l (i : Int) = true
    · rw [if_pos (e.1 hd), if_pos hd]; simp
    · rw [if_neg (fun h => hd (e.2 h)), if_neg hd]

def badN (x : Int) : Bool := decide (x < 0) || decide (4294967296 ≤ x)
def decF (l : List Int) : List Int × Int :=
  match l with
  | [a, b] => if badN a || badN b then ([], 43) else if a = 0 ∧ b = 0 then ([], 43) else (sel (dbit [a, b]), 0)
  | _ => ([], 43)
theorem Decode_1_eq (k : Nat) (x : Int) : roster_Decode_1 k x = some (badN x) := by
  unfold roster_Decode_1 badN
  by_cases h : x < 0 <;> simp [h]
theorem Decode_eq (k : Nat) (l : List Int) (hk : 100 < k) : roster_Decode k l = some (decF l) := by
  unfold roster_Decode
  by_cases h : (l.length : Int) ≠ 2
  · rw [if_pos h]
    unfold decF
    split
    · simp at h
    · rfl
  rw [if_neg h]
  have h2 : l.length = 2 := by omega
  rcases l with _ | ⟨a, _ | ⟨b, _ | ⟨c, t⟩⟩⟩
  · simp at h2
  · simp at h2
  case cons.cons.cons => simp at h2
  case cons.cons.nil =>
    have c : slices_ContainsFunc_int_int_Decode_1 k [a, b] = some (badN a || badN b) := by
      unfold slices_ContainsFunc_int_int_Decode_1 slices_IndexFunc_int_int_Decode_1
      obtain ⟨k', rfl⟩ : ∃ k', k = k' + 3 := ⟨k - 3, by omega⟩
      rw [slices_IndexFunc_int_int_Decode_1.L1, if_pos (by simp), show (0 : Int) = ((0 : Nat) : Int) from rfl, idx_pos (by simp), Decode_1_eq, bnd1_some]
      simp only [List.getElem_cons_zero]
      by_cases ha : badN a = true
      · rw [if_pos ha, bnd1_some]; simp [ha]
      rw [if_neg ha, succ64 _ (by omega), slices_IndexFunc_int_int_Decode_1.L1, if_pos (by simp), idx_pos (by simp), Decode_1_eq, bnd1_some]
      simp only [List.getElem_cons_succ, List.getElem_cons_zero]
      by_cases hb : badN b = true
      · rw [if_pos hb, bnd1_some]; simp [hb]
      rw [if_neg hb, succ64 _ (by omega), slices_IndexFunc_int_int_Decode_1.L1, if_neg (by simp), bnd1_some]
      simp [ha, hb]
    rw [c, bnd1_some, decF]
    by_cases hb : (badN a || badN b) = true
    · rw [if_pos hb, if_pos hb]
    rw [if_neg hb, if_neg hb]
    have d : roster_Decode.J1 k [a, b] = some (sel (dbit [a, b]), 0) := by
      unfold roster_Decode.J1
      exact decode_loop k [a, b] rfl 64 0 k [] (by omega) (by omega) (by simp)
    rw [show (0 : Int) = ((0 : Nat) : Int) from rfl, idx_pos (by simp), show (1 : Int) = ((1 : Nat) : Int) from rfl, idx_pos (by simp), d]
    simp only [List.getElem_cons_succ, List.getElem_cons_zero]
    by_cases ea : a = 0 <;> by_cases eb : b = 0 <;> simp [ea, eb]
theorem refDecode_eq (k : Nat) (l : List Int) (hk : 100 < k) : ref24_Decode k l = some (decF l) := by
  unfold ref24_Decode
  by_cases h : (l.length : Int) ≠ 2
  · rw [if_pos h]
    unfold decF
    split
    · simp at h
    · rfl
  rw [if_neg h]
  have h2 : l.length = 2 := by omega
  rcases l with _ | ⟨a, _ | ⟨b, _ | ⟨c, t⟩⟩⟩
  · simp at h2
  · simp at h2
  case cons.cons.cons => simp at h2
  case cons.cons.nil =>
    have d : ref24_Decode.J1 k [a, b] = some (sel (dbit [a, b]), 0) := by
      unfold ref24_Decode.J1
      exact refDecode_loop k [a, b] rfl 64 0 k [] (by omega) (by omega) (by simp)
    have i0 : ∀ f : Int → Option (List Int × Int), idx [a, b] 0 f = f a := fun f => idx_pos (l := [a, b]) (i := 0) (f := f) (by simp)
    have i1 : ∀ f : Int → Option (List Int × Int), idx [a, b] 1 f = f b := fun f => idx_pos (l := [a, b]) (i := 1) (f := f) (by simp)
    rw [i0, i1, d, decF]
    unfold badN
    by_cases a1 : a < 0
    · simp [a1]
    by_cases a2 : 4294967296 ≤ a
    · simp [a1, a2]
    by_cases b1 : b < 0
    · simp [a1, a2, b1]
    by_cases b2 : 4294967296 ≤ b
    · simp [a1, a2, b1, b2]
    by_cases ea : a = 0 <;> by_cases eb : b = 0 <;> simp [ea, eb, a1, a2, b1, b2]
theorem encF_len (l : List Int) : (encF l).1.length ≤ 2 := by
  unfold encF
  have : ∀ (m : List Int) (v : List Int), (m.foldl encStep v).length = v.length := by
    intro m
    induction m with
    | nil => intro v; rfl
    | cons x m ih => intro v; rw [List.foldl_cons, ih, encStep_len]
  split <;> simp [this]
theorem decF_len (l : List Int) : (decF l).1.length ≤ 64 := by
  unfold decF
  split
  · split
    · simp
    · split
      · simp
      · exact sel_len _
  · simp

theorem awake24' (k : Nat) (hk : 100 < k) : law24_awake k = some true := by
  unfold law24_awake
  have e : encF [0, 3, 33] = ([9, 2], 0) := by decide +kernel
  have d : decF [9, 2] = ([0, 3, 33], 0) := by decide +kernel
  rw [Encode_eq _ _ (by simp; omega) (by simp), e, bnd2_some, Decode_eq _ _ hk, d, bnd2_some, if_pos rfl, if_pos rfl, same23_refl _ _ (by simp; omega) (by simp), bnd1_some, if_pos rfl, same23_refl _ _ (by simp; omega) (by simp)]
  rfl
theorem awake24 : law24_awake 1000 = some true := awake24' 1000 (by omega)

theorem RosterSets_ex (v0 v1 v2 : List Int) (h0 : Fit (.lst false false (v0.map (.int .i64)))) (h1 : Fit (.lst false false (v1.map (.int .i64)))) (h2 : Fit (.lst false false (v2.map (.int .i64)))) : ∃ k, law24_RosterSets k v0 v1 v2 = some true := by
  have a0 := h0.ints.1
  have a1 := h1.ints.1
  have a2 := h2.ints.1
  have am := maxLen_le
  rw [am] at a0 a1 a2
  obtain ⟨k, hk, l0, l1, l2⟩ : ∃ k, 1000 < k ∧ v0.length < k ∧ v1.length < k ∧ v2.length < k := ⟨v0.length + v1.length + v2.length + 1001, by omega, by omega, by omega, by omega⟩
  refine ⟨k, ?_⟩
  have aw := awake24' k (by omega)
  unfold law24_RosterSets
  split
  · rw [aw]; rfl
  have J := setJ_len
  have M := setM_len
  have e1 : ∀ a b, (a.length < k ∧ a.length ≤ 9223372036854775807) → (b.length < k ∧ b.length ≤ 9223372036854775807) → roster_Join k a b = some (setJ a b) := fun a b x y => Join_eq k a b (by omega) x.1 y.1 x.2 y.2
  have e2 : ∀ a b, (a.length < k ∧ a.length ≤ 9223372036854775807) → (b.length < k ∧ b.length ≤ 9223372036854775807) → roster_Minus k a b = some (setM a b) := fun a b x y => Minus_eq k a b (by omega) x.1 y.1 x.2 y.2
  have w0 := And.intro l0 a0
  have w1 := And.intro l1 a1
  have w2 := And.intro l2 a2
  have jl : ∀ a b, (setJ a b).length < k ∧ (setJ a b).length ≤ 9223372036854775807 := fun a b => by have := J a b; omega
  have ml : ∀ a b, (setM a b).length < k ∧ (setM a b).length ≤ 9223372036854775807 := fun a b => by have := M a b; omega
  have d1 := e1 _ _ w0 w1
  have d2 := e1 _ _ (jl v0 v1) w2
  have d3 := e1 _ _ w2 w1
  have d4 := e1 _ _ w0 (jl v2 v1)
  have d5 := e1 _ _ w1 w2
  have d6 := e2 _ _ w0 (jl v1 v2)
  have d7 := e2 _ _ w0 w1
  have d8 := e2 _ _ (ml v0 v1) w2
  have d9 := e2 _ _ w0 w2
  have d10 := e2 _ _ w1 w2
  have d11 := e1 _ _ (ml v0 v2) (ml v1 v2)
  have d12 := e2 _ _ (jl v0 v1) w2
  have d13 := e2 _ _ w0 (ml v0 v1)
  have d14 := e2 _ _ w1 w0
  have d15 := e2 _ _ w1 (ml v1 v0)
  simp only [d1, d2, d3, d4, d5, d6, d7, d8, d9, d10, d11, d12, d13, d14, d15, bnd1_some]
  have t1 : setJ (setJ v0 v1) v2 = setJ v0 (setJ v2 v1) := by
    unfold setJ; refine eq_sets fun j g1 g2 => ?_
    by_cases x0 : j ∈ v0 <;> by_cases x1 : j ∈ v1 <;> by_cases x2 : j ∈ v2 <;> simp [mem_sel, x0, x1, x2, g1, g2]
  have t2 : setM v0 (setJ v1 v2) = setM (setM v0 v1) v2 := by
    unfold setM setJ; refine eq_sets fun j g1 g2 => ?_
    by_cases x0 : j ∈ v0 <;> by_cases x1 : j ∈ v1 <;> by_cases x2 : j ∈ v2 <;> simp [mem_sel, x0, x1, x2, g1, g2]
  have t3 : setJ (setM v0 v2) (setM v1 v2) = setM (setJ v0 v1) v2 := by
    unfold setM setJ; refine eq_sets fun j g1 g2 => ?_
    by_cases x0 : j ∈ v0 <;> by_cases x1 : j ∈ v1 <;> by_cases x2 : j ∈ v2 <;> simp [mem_sel, x0, x1, x2, g1, g2]
  have t4 : setM v0 (setM v0 v1) = setM v1 (setM v1 v0) := by
    unfold setM; refine eq_sets fun j g1 g2 => ?_
    by_cases x0 : j ∈ v0 <;> by_cases x1 : j ∈ v1 <;> simp [mem_sel, x0, x1, g1, g2]
  have sm : ∀ a : List Int, (a.length < k ∧ a.length ≤ 9223372036854775807) → ref23_SameInts k a a = some true := fun a h => same23_refl k a h.1 h.2
  rw [t1, sm _ (jl _ _), bnd1_some, if_pos rfl, t2, sm _ (ml _ _), bnd1_some, if_pos rfl, t3, sm _ (ml _ _), bnd1_some, if_pos rfl, t4, sm _ (ml _ _), bnd1_some, if_pos rfl]
  have hJ := J v0 (setJ v2 v1)
  rw [if_pos (by omega)]
  by_cases hz : ((setJ v0 (setJ v2 v1)).length : Int) = 0
  · rw [if_pos hz, aw]; rfl
  · rw [if_neg hz, Valid_eq _ _ (by omega) (by omega), bnd1_some]
    have : okR (setJ v0 (setJ v2 v1)) = true := okR_sel _ (fun h => hz (by unfold setJ; unfold setJ at h; rw [h]; rfl))
    rw [if_pos this, aw]; rfl

theorem raw_loop (v1 : List Int) (v2 : Int) (h1 : v1.length ≤ 200) : ∀ (m i n : Nat) (l : List Int), i + m = 2 → m < n → l.length ≤ 300 → law24_RosterRaw.L1 1000 v1 v2 n l (i : Int) = some true
  | 0, i, n + 1, l, h, _, _ => by rw [law24_RosterRaw.L1, if_neg (by omega), awake24]; rfl
  | m + 1, i, n + 1, l, h, hn, hl => by
    rw [law24_RosterRaw.L1, if_pos (by omega), Encode_eq _ _ (by omega) (by omega), refEncode_eq _ _ (by omega) (by omega), Decode_eq _ _ (by omega), refDecode_eq _ _ (by omega)]
    have a1 := encF_len l
    have a2 := decF_len l
    generalize encF l = r at *
    generalize decF l = s at *
    obtain ⟨x, e⟩ := r
    obtain ⟨y, f⟩ := s
    simp only at a1 a2
    have J := fun a b => setJ_len a b
    have M := fun a b => setM_len a b
    rw [bnd2_some, bnd2_some, bnd2_some, bnd2_some, if_neg (by simp), if_neg (by simp), same23_refl _ _ (by omega) (by omega), bnd1_some, if_neg (by simp), same23_refl _ _ (by omega) (by omega), bnd1_some, if_neg (by simp),
      Valid_eq _ _ (by omega) (by omega), bnd1_some, refValid_eq _ _ (by omega) (by omega), bnd1_some, if_neg (by simp), Has_eq _ _ _ (by omega) (by omega), bnd1_some, refHas_eq _ _ _ (by omega) (by omega), bnd1_some, if_neg (by simp),
      Join_eq _ _ _ (by omega) (by omega) (by omega) (by omega) (by omega), bnd1_some, refJoin_eq _ _ _ (by omega) (by omega) (by omega) (by omega) (by omega), bnd1_some, same23_refl _ _ (by have := J l v1; omega) (by have := J l v1; omega), bnd1_some, if_neg (by simp),
      Minus_eq _ _ _ (by omega) (by omega) (by omega) (by omega) (by omega), bnd1_some, refMinus_eq _ _ _ (by omega) (by omega) (by omega) (by omega) (by omega), bnd1_some, same23_refl _ _ (by have := M l v1; omega) (by have := M l v1; omega), bnd1_some, if_neg (by simp),
      refJoin_eq _ _ _ (by omega) (by omega) (by simp) (by omega) (by simp), bnd1_some, succ64 _ (by omega)]
    exact raw_loop v1 v2 h1 m (i + 1) n _ (by omega) (by omega) (by have := J l []; omega)
theorem RosterRaw_true (v0 v1 : List Int) (v2 : Int) (h0 : Fit (.lst false false (v0.map (.int .i64)))) (h1 : Fit (.lst false false (v1.map (.int .i64)))) (h2 : Fit (.int .i64 v2)) : law24_RosterRaw 1000 v0 v1 v2 = some true := by
  unfold law24_RosterRaw
  by_cases a0 : 200 < (v0.length : Int)
  · rw [if_pos a0, awake24]; rfl
  rw [if_neg a0]
  by_cases a1 : 200 < (v1.length : Int)
  · rw [if_pos a1, awake24]; rfl
  rw [if_neg a1]
  exact raw_loop v1 v2 (by omega) 2 0 1000 v0 (by omega) (by omega) (by omega)
end Go.TF
