/- Plain laws of layer 24: sets and numbers. -/
import Derived.Test.YtepdfenlkeaefaaCPros
set_option linter.unusedVariables false
set_option linter.unusedSimpArgs false
namespace Go.TF
open Go Go.Abs

theorem maxLen_le : maxLen = 9223372036854775807 := by decide

theorem eq_sets {p q : Int → Bool} (h : ∀ j : Int, 0 ≤ j → j < 64 → p j = q j) : sel p = sel q := sel_congr fun j hj => h j (by omega) (by omega)
theorem mem_setJ {a b : List Int} {x : Int} : x ∈ setJ a b ↔ 0 ≤ x ∧ x < 64 ∧ (x ∈ a ∨ x ∈ b) := by
  unfold setJ; rw [mem_sel]; simp
theorem mem_setM {a b : List Int} {x : Int} : x ∈ setM a b ↔ 0 ≤ x ∧ x < 64 ∧ (x ∈ a ∧ ¬ x ∈ b) := by
  unfold setM; rw [mem_sel]; simp
theorem boolEq {p q : Bool} (h : p = true ↔ q = true) : p = q := by cases p <;> cases q <;> simp_all

/-! ### numbers -/
def encStep (v5 : List Int) (x : Int) : List Int :=
  v5.set (x / 32).toNat (bitsV .or .i64 (v5.getD (x / 32).toNat 0) (IntKind.wrap .i64 (1 * 2 ^ (min ((x % 32).toNat) 64))))
theorem encStep_len (v5 : List Int) (x : Int) : (encStep v5 x).length = v5.length := by simp [encStep]
def encF (l : List Int) : List Int × Int := if okR l = true then (l.foldl encStep [0, 0], 0) else ([], 43)
theorem td32 (x : Int) (h0 : 0 ≤ x) (h1 : x < 64) : IntKind.wrap .i64 (Int.tdiv x 32) = x / 32 := by
  rw [Int.tdiv_eq_ediv_of_nonneg h0, w64 (by omega) (by omega)]
theorem tm32 (x : Int) (h0 : 0 ≤ x) : Int.tmod x 32 = x % 32 := Int.tmod_eq_emod_of_nonneg h0
theorem encode_loop (k : Nat) (l : List Int) (h9 : l.length ≤ 9223372036854775807) (hr : ∀ x ∈ l, 0 ≤ x ∧ x < 64) : ∀ (m i n : Nat) (v5 : List Int), i + m = l.length → m < n → v5.length = 2 → roster_Encode.L1 k l n (i : Int) v5 = some ((l.drop i).foldl encStep v5, 0)
  | 0, i, n + 1, v5, h, _, _ => by rw [roster_Encode.L1, if_neg (by omega), List.drop_of_length_le (by omega)]; rfl
  | m + 1, i, n + 1, v5, h, hn, h2 => by
    have h1 : i < l.length := by omega
    have hx := hr l[i] (List.getElem_mem h1)
    rw [roster_Encode.L1, if_pos (by omega), idx_pos h1, td32 _ hx.1 hx.2, tm32 _ hx.1, chk_pos (by omega)]
    obtain ⟨q, hq⟩ := Int.eq_ofNat_of_zero_le (show 0 ≤ l[i] / 32 by omega)
    have hq2 : q < v5.length := by omega
    rw [hq, idx_pos hq2, chk_pos (by omega), chk_pos (by omega), succ64 _ (by omega), List.drop_eq_getElem_cons h1, List.foldl_cons]
    have e : encStep v5 l[i] = v5.set ((q : Nat) : Int).toNat (bitsV .or .i64 v5[q] (IntKind.wrap .i64 (1 * 2 ^ (min ((l[i] % 32).toNat) 64)))) := by
      unfold encStep
      rw [hq]
      simp [List.getD_eq_getElem?_getD, hq2]
    rw [← e]
    exact encode_loop k l h9 hr m (i + 1) n _ (by omega) (by omega) (by rw [encStep_len]; exact h2)
theorem Encode_eq (k : Nat) (l : List Int) (hk : l.length < k) (h9 : l.length ≤ 9223372036854775807) : roster_Encode k l = some (encF l) := by
  unfold roster_Encode encF
  rw [Valid_eq k l hk h9, bnd1_some]
  by_cases h : okR l = true
  · rw [if_neg (by simp [h]), if_pos h]
    have ha : asc (-1) l = true := by simp [okR] at h; exact h.2
    have := encode_loop k l h9 (asc_range ha) l.length 0 k [0, 0] (by omega) hk rfl
    simpa using this
  · rw [if_pos (by simp [h]), if_neg h]
def dbit (l : List Int) (j : Int) : Bool := decide (bitsV .and .i64 (Int.fdiv (l.getD (j / 32).toNat 0) (2 ^ (min ((j % 32).toNat) 64))) 1 = 1)
theorem decode_loop (k : Nat) (l : List Int) (hl : l.length = 2) : ∀ (m i n : Nat) (acc : List Int), i + m = 64 → m < n → acc.length ≤ i → roster_Decode.L2 k l n (i : Int) acc = some (acc ++ selF (dbit l) m i, 0)
  | 0, i, n + 1, acc, h, _, _ => by rw [roster_Decode.L2, if_neg (by omega)]; simp [selF]
  | m + 1, i, n + 1, acc, h, hn, ha => by
    rw [roster_Decode.L2, if_pos (by omega), td32 _ (by omega) (by omega), tm32 _ (by omega)]
    have hq : ((i : Int) / 32) = ((i / 32 : Nat) : Int) := by omega
    have hq2 : i / 32 < l.length := by omega
    rw [hq, idx_pos hq2, chk_pos (by omega)]
    unfold roster_Decode.J3
    dsimp only
    rw [succ64 _ (by omega), chk_pos (by simp only [List.length_cons, List.length_nil]; omega), decode_loop k l hl m (i + 1) n _ (by omega) (by omega) (by simp only [List.length_append, List.length_cons, List.length_nil]; omega), decode_loop k l hl m (i + 1) n acc (by omega) (by omega) (by omega), selF]
    have e : (dbit l (i : Int) = true) ↔ (bitsV .and .i64 (Int.fdiv l[i / 32] (2 ^ (min (((i : Int) % 32).toNat) 64))) 1 = 1) := by
      unfold dbit
      rw [hq, Int.toNat_natCast, List.getD_eq_getElem?_getD, List.getElem?_eq_getElem hq2, Option.getD_some, decide_eq_true_eq]
    by_cases hd : dbit l (i : Int) = true
    · rw [if_pos (e.1 hd), if_pos hd]; simp
    · rw [if_neg (fun h => hd (e.2 h)), if_neg hd]
def badN (x : Int) : Bool := decide (x < 0) || decide (4294967296 ≤ x)
def decF (l : List Int) : List Int × Int :=
  match l with
  | [a, b] => if badN a || badN b then ([], 43) else if a = 0 ∧ b = 0 then ([], 43) else (sel (dbit [a, b]), 0)
  | _ => ([], 43)
theorem Decode_1_eq (k : Nat) (x : Int) : roster_Decode_1 k x = some (badN x) := by
  unfold roster_Decode_1 badN
  by_cases h : x < 0 <;> simp [h]
theorem Decode_eq (k : Nat) (l : List Int) (hk : 100 < k) : roster_Decode k l = some (decF l) := by
  unfold roster_Decode
  by_cases h : (l.length : Int) ≠ 2
  · rw [if_pos h]
    unfold decF
    split
    · simp at h
    · rfl
  rw [if_neg h]
  have h2 : l.length = 2 := by omega
  rcases l with _ | ⟨a, _ | ⟨b, _ | ⟨c, t⟩⟩⟩
  · simp at h2
  · simp at h2
  case cons.cons.cons => simp at h2
  case cons.cons.nil =>
    have c : slices_ContainsFunc_int_int_Decode_1 k [a, b] = some (badN a || badN b) := by
      unfold slices_ContainsFunc_int_int_Decode_1 slices_IndexFunc_int_int_Decode_1
      obtain ⟨k', rfl⟩ : ∃ k', k = k' + 3 := ⟨k - 3, by omega⟩
      rw [slices_IndexFunc_int_int_Decode_1.L1, if_pos (by simp), show (0 : Int) = ((0 : Nat) : Int) from rfl, idx_pos (by simp), Decode_1_eq, bnd1_some]
      simp only [List.getElem_cons_zero]
      by_cases ha : badN a = true
      · rw [if_pos ha, bnd1_some]; simp [ha]
      rw [if_neg ha, succ64 _ (by omega), slices_IndexFunc_int_int_Decode_1.L1, if_pos (by simp), idx_pos (by simp), Decode_1_eq, bnd1_some]
      simp only [List.getElem_cons_succ, List.getElem_cons_zero]
      by_cases hb : badN b = true
      · rw [if_pos hb, bnd1_some]; simp [hb]
      rw [if_neg hb, succ64 _ (by omega), slices_IndexFunc_int_int_Decode_1.L1, if_neg (by simp), bnd1_some]
      simp [ha, hb]
    rw [c, bnd1_some, decF]
    by_cases hb : (badN a || badN b) = true
    · rw [if_pos hb, if_pos hb]
    rw [if_neg hb, if_neg hb]
    have d : roster_Decode.J1 k [a, b] = some (sel (dbit [a, b]), 0) := by
      unfold roster_Decode.J1
      exact decode_loop k [a, b] rfl 64 0 k [] (by omega) (by omega) (by simp)
    rw [show (0 : Int) = ((0 : Nat) : Int) from rfl, idx_pos (by simp), show (1 : Int) = ((1 : Nat) : Int) from rfl, idx_pos (by simp), d]
    simp only [List.getElem_cons_succ, List.getElem_cons_zero]
    by_cases ea : a = 0 <;> by_cases eb : b = 0 <;> simp [ea, eb]
theorem encF_len (l : List Int) : (encF l).1.length ≤ 2 := by
  unfold encF
  have : ∀ (m : List Int) (v : List Int), (m.foldl encStep v).length = v.length := by
    intro m
    induction m with
    | nil => intro v; rfl
    | cons x m ih => intro v; rw [List.foldl_cons, ih, encStep_len]
  split <;> simp [this]
theorem decF_len (l : List Int) : (decF l).1.length ≤ 64 := by
  unfold decF
  split
  · split
    · simp
    · split
      · simp
      · exact sel_len _
  · simp

theorem awake24' (k : Nat) (hk : 100 < k) : law24_awake k = some true := by
  unfold law24_awake
  have e : encF [0, 3, 33] = ([9, 2], 0) := by decide +kernel
  have d : decF [9, 2] = ([0, 3, 33], 0) := by decide +kernel
  rw [Encode_eq _ _ (by simp; omega) (by simp), e, bnd2_some, Decode_eq _ _ hk, d, bnd2_some, if_pos rfl, if_pos rfl, same23_refl _ _ (by simp; omega) (by simp), bnd1_some, if_pos rfl, same23_refl _ _ (by simp; omega) (by simp)]
  rfl
theorem awake24 : law24_awake 1000 = some true := awake24' 1000 (by omega)

end Go.TF
