/- Plain laws of layer 2: what is taken. -/
import Derived.Test.YtocmgnljgemjkaaPwire
import Derived.Test.YtocmgnljgemjkaaPmade
set_option linter.unusedVariables false
set_option linter.unusedSimpArgs false
namespace Go.TF
open Go Go.Abs

def Fb (a b : Int) : Int := bitsV .or .u64 (IntKind.wrap .u64 (a * 2 ^ (8))) (IntKind.wrap .u64 b)
def decI (l : List Int) : Int := IntKind.wrap .i64 (l.foldl Fb 0)

theorem take_loop (k : Nat) (v0 : List Int) (h8 : 8 ≤ v0.length) (h9 : v0.length ≤ 100000) : ∀ (m i n : Nat) (a : Int), i + m = 8 → m < n → wire_TakeInt.L1 k v0 n a (i : Int) = some (IntKind.wrap .i64 (((v0.drop i).take m).foldl Fb a), v0.drop 8, true)
  | 0, i, n + 1, a, h, _ => by
    have hl : (v0.take (8 : Int).toNat).length = 8 := by simp; omega
    rw [wire_TakeInt.L1, hl, if_neg (by omega), chk_pos (by omega)]
    unfold slices_Clone_byte_byte
    rw [chk_pos (by simp; omega)]
    simp
  | m + 1, i, n + 1, a, h, hn => by
    have hl : (v0.take (8 : Int).toNat).length = 8 := by simp; omega
    have hi : i < (v0.take (8 : Int).toNat).length := by omega
    rw [wire_TakeInt.L1, if_pos (by omega), idx_pos hi, w64 (by omega) (by omega), show ((i : Int) + 1) = ((i + 1 : Nat) : Int) by omega, take_loop k v0 h8 h9 m (i + 1) n _ (by omega) (by omega)]
    have h1 : i < v0.length := by omega
    rw [List.drop_eq_getElem_cons h1, List.take_succ_cons, List.foldl_cons]
    simp [Fb]
theorem refTake_loop (k : Nat) (v0 : List Int) (h8 : 8 ≤ v0.length) (h9 : v0.length ≤ 100000) : ∀ (m i n : Nat) (a : Int), i + m = 8 → m < n → ref02_TakeInt.L1 k v0 n a (i : Int) = some (IntKind.wrap .i64 (((v0.drop i).take m).foldl Fb a), v0.drop 8, true)
  | 0, i, n + 1, a, h, _ => by
    rw [ref02_TakeInt.L1, if_neg (by omega), chk_pos (by omega)]
    unfold ref02_rest
    rw [chk_pos (by simp; omega)]
    simp
  | m + 1, i, n + 1, a, h, hn => by
    have hi : i < v0.length := by omega
    rw [ref02_TakeInt.L1, if_pos (by omega), idx_pos hi, w64 (by omega) (by omega), show ((i : Int) + 1) = ((i + 1 : Nat) : Int) by omega, refTake_loop k v0 h8 h9 m (i + 1) n _ (by omega) (by omega)]
    have h1 : i < v0.length := by omega
    rw [List.drop_eq_getElem_cons h1, List.take_succ_cons, List.foldl_cons]
    simp [Fb]

def takeI (v0 : List Int) : Int × List Int × Bool := if v0.length < 8 then (0, [], false) else (decI (v0.take 8), v0.drop 8, true)
theorem TakeInt_eq (k : Nat) (hk : 8 < k) (v0 : List Int) (h : v0.length ≤ 100000) : wire_TakeInt k v0 = some (takeI v0) := by
  unfold wire_TakeInt takeI
  by_cases h1 : v0.length < 8
  · rw [if_pos (by omega), if_pos h1]
  · rw [if_neg (by omega), if_neg h1, chk_pos (by omega)]
    exact take_loop k v0 (by omega) h 8 0 k 0 rfl hk
theorem refTakeInt_eq (k : Nat) (hk : 8 < k) (v0 : List Int) (h : v0.length ≤ 100000) : ref02_TakeInt k v0 = some (takeI v0) := by
  unfold ref02_TakeInt takeI
  by_cases h1 : v0.length < 8
  · rw [if_pos (by omega), if_pos h1]
  · rw [if_neg (by omega), if_neg h1]
    exact refTake_loop k v0 (by omega) h 8 0 k 0 rfl hk
theorem takeI_len (v0 : List Int) : (takeI v0).2.1.length ≤ v0.length := by
  unfold takeI; split <;> simp

def takeT (v0 : List Int) (m : Int) : ByteArray × List Int × Bool :=
  let r := takeI v0
  if (!r.2.2) = true then (ByteArray.mk #[], [], false) else if r.1 < 0 then (ByteArray.mk #[], [], false) else if m < r.1 then (ByteArray.mk #[], [], false) else if (r.2.1.length : Int) < r.1 then (ByteArray.mk #[], [], false)
  else (ofI (r.2.1.take r.1.toNat), r.2.1.drop r.1.toNat, true)
theorem TakeText_eq (k : Nat) (hk : 8 < k) (v0 : List Int) (m : Int) (h : v0.length ≤ 100000) : wire_TakeText k v0 m = some (takeT v0 m) := by
  unfold wire_TakeText takeT
  rw [TakeInt_eq k hk v0 h]
  generalize takeI v0 = r
  obtain ⟨a, x, b⟩ := r
  simp only [bnd3_some]
  split; · rfl
  split; · rfl
  split; · rfl
  split; · rfl
  rw [chk_pos (by omega), chk_pos (by omega)]
theorem refTakeText_eq (k : Nat) (hk : 8 < k) (v0 : List Int) (m : Int) (h : v0.length ≤ 100000) : ref02_TakeText k v0 m = some (takeT v0 m) := by
  unfold ref02_TakeText takeT
  have hl := takeI_len v0
  rw [refTakeInt_eq k hk v0 h]
  generalize takeI v0 = r at hl
  obtain ⟨a, x, b⟩ := r
  simp only [bnd3_some]
  simp only at hl
  split; · rfl
  split; · rfl
  split; · rfl
  split; · rfl
  unfold ref02_rest
  rw [chk_pos (by omega), chk_pos (by omega), chk_pos (by simp; omega), bnd1_some]

def decs : Nat → List Int → List Int
  | 0, _ => []
  | m + 1, l => decI (l.take 8) :: decs m (l.drop 8)
theorem decs_len : ∀ (m : Nat) (l : List Int), (decs m l).length = m
  | 0, _ => rfl
  | m + 1, l => by simp [decs, decs_len m]
theorem takeInts_loop (k : Nat) (hk : 8 < k) (v5 : Int) (hv : v5 ≤ 100000) : ∀ (m i n : Nat) (l acc : List Int), (i + m : Int) = v5 → m < n → 8 * m ≤ l.length → l.length ≤ 100000 → acc.length + m ≤ 200000 → wire_TakeInts.L1 k v5 n l (i : Int) acc = some (acc ++ decs m l, l.drop (8 * m), true)
  | 0, i, n + 1, l, acc, h, _, _, _, _ => by rw [wire_TakeInts.L1, if_neg (by omega)]; simp [decs]
  | m + 1, i, n + 1, l, acc, h, hn, h8, hl, ha => by
    have h1 : ¬ l.length < 8 := by omega
    rw [wire_TakeInts.L1, if_pos (by omega), TakeInt_eq k hk l hl, takeI, if_neg h1, bnd3_some, chk_pos (by simp; omega), w64 (by omega) (by omega), show ((i : Int) + 1) = ((i + 1 : Nat) : Int) by omega,
      takeInts_loop k hk v5 hv m (i + 1) n _ _ (by omega) (by omega) (by simp; omega) (by simp; omega) (by simp; omega)]
    simp [decs, List.drop_drop, Nat.mul_add, Nat.add_comm]
theorem refTakeInts_loop (k : Nat) (hk : 8 < k) (v5 : Int) (hv : v5 ≤ 100000) : ∀ (m i n : Nat) (l acc : List Int), (i + m : Int) = v5 → m < n → 8 * m ≤ l.length → l.length ≤ 100000 → acc.length + m ≤ 200000 → ref02_TakeInts.L1 k v5 n l (i : Int) acc = some (acc ++ decs m l, l.drop (8 * m), true)
  | 0, i, n + 1, l, acc, h, _, _, _, _ => by rw [ref02_TakeInts.L1, if_neg (by omega)]; simp [decs]
  | m + 1, i, n + 1, l, acc, h, hn, h8, hl, ha => by
    have h1 : ¬ l.length < 8 := by omega
    rw [ref02_TakeInts.L1, if_pos (by omega), refTakeInt_eq k hk l hl, takeI, if_neg h1, bnd3_some, chk_pos (by simp; omega), w64 (by omega) (by omega), show ((i : Int) + 1) = ((i + 1 : Nat) : Int) by omega,
      refTakeInts_loop k hk v5 hv m (i + 1) n _ _ (by omega) (by omega) (by simp; omega) (by simp; omega) (by simp; omega)]
    simp [decs, List.drop_drop, Nat.mul_add, Nat.add_comm]

def takeN (v0 : List Int) (m : Int) : List Int × List Int × Bool :=
  let r := takeI v0
  if (!r.2.2) = true then ([], [], false) else if r.1 < 0 then ([], [], false) else if m < r.1 then ([], [], false) else if IntKind.wrap .i64 (Int.tdiv (r.2.1.length : Int) 8) < r.1 then ([], [], false)
  else (decs r.1.toNat r.2.1, r.2.1.drop (8 * r.1.toNat), true)
theorem tdiv8 (n : Nat) (h : n ≤ 100000) : IntKind.wrap .i64 (Int.tdiv (n : Int) 8) = (n : Int) / 8 := by
  rw [Int.tdiv_eq_ediv_of_nonneg (by omega), w64 (by omega) (by omega)]
theorem TakeInts_eq (k : Nat) (hk : 900 < k) (v0 : List Int) (m : Int) (h : v0.length ≤ 5000) : wire_TakeInts k v0 m = some (takeN v0 m) := by
  unfold wire_TakeInts takeN
  have hl := takeI_len v0
  rw [TakeInt_eq k (by omega) v0 (by omega)]
  generalize takeI v0 = r at hl
  obtain ⟨a, x, b⟩ := r
  simp only [bnd3_some]
  simp only at hl
  split; · rfl
  split; · rfl
  split; · rfl
  rw [tdiv8 _ (by omega)]
  split; · rfl
  have := takeInts_loop k (by omega) a (by omega) a.toNat 0 k x [] (by omega) (by omega) (by omega) (by omega) (by simp; omega)
  simpa using this
theorem refTakeInts_eq (k : Nat) (hk : 900 < k) (v0 : List Int) (m : Int) (h : v0.length ≤ 5000) : ref02_TakeInts k v0 m = some (takeN v0 m) := by
  unfold ref02_TakeInts takeN
  have hl := takeI_len v0
  rw [refTakeInt_eq k (by omega) v0 (by omega)]
  generalize takeI v0 = r at hl
  obtain ⟨a, x, b⟩ := r
  simp only [bnd3_some]
  simp only at hl
  split; · rfl
  split; · rfl
  split; · rfl
  rw [tdiv8 _ (by omega)]
  split; · rfl
  have := refTakeInts_loop k (by omega) a (by omega) a.toNat 0 k x [] (by omega) (by omega) (by omega) (by omega) (by simp; omega)
  simpa using this
theorem takeN_len (v0 : List Int) (m : Int) (h : v0.length ≤ 5000) : (takeN v0 m).1.length ≤ 700 := by
  unfold takeN
  have hl := takeI_len v0
  generalize takeI v0 = r at hl
  obtain ⟨a, x, b⟩ := r
  simp only at hl ⊢
  split; · simp
  split; · simp
  split; · simp
  rw [tdiv8 _ (by omega)]
  split; · simp
  simp only [decs_len]
  omega

theorem same_loop (k : Nat) (a b : List Int) (hl : a.length = b.length) (h9 : a.length ≤ 100000) : ∀ (m i n : Nat), i + m = a.length → m < n → law02_sameInts.L1 k a b n (i : Int) = some (decide (a.drop i = b.drop i))
  | 0, i, n + 1, h, _ => by
    rw [law02_sameInts.L1, if_neg (by omega), List.drop_of_length_le (by omega), List.drop_of_length_le (by omega)]; simp
  | m + 1, i, n + 1, h, hn => by
    have h1 : i < a.length := by omega
    have h2 : i < b.length := by omega
    have d1 := List.drop_eq_getElem_cons h1
    have d2 := List.drop_eq_getElem_cons h2
    have d3 : (a.drop i = b.drop i) ↔ (a[i] = b[i] ∧ a.drop (i + 1) = b.drop (i + 1)) := by rw [d1, d2, List.cons.injEq]
    rw [law02_sameInts.L1, if_pos (by omega), idx_pos h1, idx_pos h2]
    by_cases e : a[i] = b[i]
    · rw [if_neg (by simp [e]), w64 (by omega) (by omega), show ((i : Int) + 1) = ((i + 1 : Nat) : Int) by omega, same_loop k a b hl h9 m (i + 1) n (by omega) (by omega)]
      simp only [d3, e, true_and]
    · rw [if_pos e]; simp only [d3, e, false_and, decide_false]
theorem sameInts_eq (k : Nat) (a b : List Int) (ha : a.length < k) (h9 : a.length ≤ 100000) : law02_sameInts k a b = some (decide (a = b)) := by
  unfold law02_sameInts
  by_cases h : a.length = b.length
  · rw [if_neg (by omega)]
    exact same_loop k a b h h9 a.length 0 k (by omega) ha
  · rw [if_pos (by omega)]
    simp
    intro e; exact h (by rw [e])

theorem taken_true (v0 : List Int) (m : Int) (h : v0.length ≤ 5000) : law02_taken 1000 v0 m = some true := by
  unfold law02_taken
  rw [TakeInt_eq _ (by omega) _ (by omega), refTakeInt_eq _ (by omega) _ (by omega), TakeText_eq _ (by omega) _ _ (by omega), refTakeText_eq _ (by omega) _ _ (by omega), TakeInts_eq _ (by omega) _ _ h, refTakeInts_eq _ (by omega) _ _ h]
  have hn := takeN_len v0 m h
  generalize takeI v0 = r at *
  generalize takeT v0 m = s at *
  generalize takeN v0 m = t at *
  obtain ⟨a, x, b⟩ := r
  obtain ⟨c, y, d⟩ := s
  obtain ⟨e, z, g⟩ := t
  simp only at hn
  simp only [bnd3_some, strEq_self, if_true, beq_self_eq_true]
  rw [sameInts_eq _ _ _ (by omega) (by omega)]
  simp

theorem WireTakes_true (v0 : List Int) (v1 v2 : Int) (h0 : Fit (.lst false false (v0.map (.int .u8)))) (h1 : Fit (.int .i64 v1)) (h2 : Fit (.int .i64 v2)) : law02_WireTakes 1000 v0 v1 v2 = some true := by
  unfold law02_WireTakes
  by_cases h0 : 200 < (v0.length : Int)
  · rw [if_pos h0, awake02]; rfl
  have e := fun a => enc_length a
  rw [if_neg h0, Mod_eq, bnd1_some, refInt_eq _ (by omega) _ _ (by simp), bnd1_some, chk_pos (by simp [e]; omega), awake02, bnd1_some, if_pos rfl, taken_true _ _ (by omega), bnd1_some, if_pos rfl, taken_true _ _ (by simp [e]; omega), bnd1_some, if_pos rfl, Mod_eq, bnd1_some, taken_true _ _ (by simp [e]; omega), bnd1_some, if_pos rfl,
    refInt_eq _ (by omega) _ _ (by simp), bnd1_some, chk_pos (by simp [e]; omega), taken_true _ _ (by simp [e]; omega)]
  rfl

/-! ### taking back what was written -/
theorem Fb_eq (a b : Int) (h0 : 0 ≤ b) (h1 : b < 256) : Fb a b = (a * 256) % 18446744073709551616 + b := by
  unfold Fb bitsV
  have e1 : IntKind.wrap .u64 b = b := wu64 h0 (by omega)
  rw [e1, wu64_def]
  simp only
  rw [BitVec.toNat_or, BitVec.toNat_ofInt, BitVec.toNat_ofInt]
  show IntKind.wrap .u64 ((((a * 2 ^ 8) % 18446744073709551616 % ((2 ^ 64 : Nat) : Int)).toNat ||| ((b % ((2 ^ 64 : Nat) : Int)).toNat) : Nat) : Int) = _
  obtain ⟨x, hx⟩ : ∃ x : Nat, (a * 2 ^ 8) % 18446744073709551616 = 256 * (x : Int) ∧ x < 2 ^ 56 := ⟨((a * 2 ^ 8) % 18446744073709551616 / 256).toNat, by omega, by omega⟩
  obtain ⟨y, rfl⟩ := Int.eq_ofNat_of_zero_le h0
  rw [hx.1]
  have e2 : ((256 * (x : Int)) % ((2 ^ 64 : Nat) : Int)).toNat = x <<< 8 := by rw [Nat.shiftLeft_eq]; omega
  have e3 : ((y : Int) % ((2 ^ 64 : Nat) : Int)).toNat = y := by omega
  rw [e2, e3, ← Nat.shiftLeft_add_eq_or_of_lt (by omega), Nat.shiftLeft_eq, wu64 (by omega) (by omega)]
  have : a * 256 = a * 2 ^ 8 := by omega
  rw [this, hx.1]
  omega

theorem foldF (v : Int) : ∀ j, j ≤ 8 → (encL v j).foldl Fb (v / 2 ^ (8 * j) % 2 ^ (64 - 8 * j)) = v % 2 ^ 64
  | 0, _ => by simp [encL]
  | j + 1, hj => by
    have ih := foldF v j (by omega)
    rw [encL, List.foldl_cons, Fb_eq _ _ (by omega) (by omega)]
    rw [← ih]
    congr 1
    have : j = 0 ∨ j = 1 ∨ j = 2 ∨ j = 3 ∨ j = 4 ∨ j = 5 ∨ j = 6 ∨ j = 7 := by omega
    rcases this with rfl | rfl | rfl | rfl | rfl | rfl | rfl | rfl <;> simp <;> omega
theorem decI_enc (v : Int) (h : InR .i64 v) : decI (enc v) = v := by
  have h := h.i64
  have e := foldF v 8 (by omega)
  simp only [Nat.reduceMul, Nat.reduceSub, Int.pow_zero, Int.emod_one] at e
  unfold decI enc
  rw [e, wi64_def]
  split <;> omega
theorem takeI_enc (v : Int) (h : InR .i64 v) (r : List Int) : takeI (enc v ++ r) = (v, r, true) := by
  unfold takeI
  rw [if_neg (by rw [List.length_append, enc_length]; omega), List.take_append_of_le_length (by rw [enc_length]; omega), List.take_of_length_le (by rw [enc_length]; omega), decI_enc v h, List.drop_append_of_le_length (by rw [enc_length]; omega), List.drop_of_length_le (by rw [enc_length]; omega)]
  rfl
theorem flat_len : ∀ l : List Int, (l.flatMap enc).length = 8 * l.length
  | [] => rfl
  | a :: l => by simp [flat_len l, enc_length]; omega
theorem decs_flat : ∀ l : List Int, (∀ x ∈ l, InR .i64 x) → decs l.length (l.flatMap enc) = l
  | [], _ => rfl
  | a :: l, h => by
    rw [List.length_cons, decs, List.flatMap_cons, List.take_append_of_le_length (by rw [enc_length]; omega), List.take_of_length_le (by rw [enc_length]; omega), decI_enc a (h a (by simp)), List.drop_append_of_le_length (by rw [enc_length]; omega), List.drop_of_length_le (by rw [enc_length]; omega), List.nil_append, decs_flat l (fun x hx => h x (by simp [hx]))]
theorem InR_i64 {n : Int} (h1 : -9223372036854775808 ≤ n) (h2 : n ≤ 9223372036854775807) : InR .i64 n := by
  simpa [InR, IntKind.min, IntKind.max, IntKind.bits, IntKind.signed] using ⟨h1, h2⟩

theorem ofI_bI (s : ByteArray) : ofI (bI s) = s := by
  unfold ofI bI
  rw [List.map_map]
  have : ((fun n : Int => UInt8.ofNat n.toNat) ∘ fun x : UInt8 => ((x.toNat : Nat) : Int)) = id := by funext x; simp
  rw [this, List.map_id]
theorem WireBack_true (v0 : Int) (v1 : ByteArray) (v2 : List Int) (h0 : Fit (.int .i64 v0)) (h1 : Fit (.str v1)) (h2 : Fit (.lst false false (v2.map (.int .i64)))) : law02_WireBack 1000 v0 v1 v2 = some true := by
  have hr := h2.ints.2
  have hv : InR .i64 v0 := by simpa [Fit] using h0
  unfold law02_WireBack
  by_cases h3 : 100 < (v1.size : Int)
  · rw [if_pos h3, awake02]; rfl
  rw [if_neg h3]
  by_cases h4 : 60 < (v2.length : Int)
  · rw [if_pos h4, awake02]; rfl
  rw [if_neg h4]
  have hb : (bI v1).length = v1.size := by simp
  have e := fun a => enc_length a
  have f := flat_len v2
  rw [Int_eq _ (by omega) _ _ (by simp), bnd1_some, Text_eq _ (by omega) _ _ (by simp [e]) (by omega), bnd1_some, Ints_eq _ (by omega) _ _ (by simp [e]; omega) (by omega) (by omega), bnd1_some,
    TakeInt_eq _ (by omega) _ (by simp [e, f]; omega)]
  have t1 : [] ++ enc v0 ++ enc ↑v1.size ++ bI v1 ++ enc ↑v2.length ++ v2.flatMap enc = enc v0 ++ (enc v1.size ++ (bI v1 ++ (enc v2.length ++ v2.flatMap enc))) := by simp
  rw [t1, takeI_enc v0 hv, bnd3_some, TakeText_eq _ (by omega) _ _ (by simp [e, f]; omega)]
  have t2 : takeT (enc v1.size ++ (bI v1 ++ (enc v2.length ++ v2.flatMap enc))) v1.size = (v1, enc v2.length ++ v2.flatMap enc, true) := by
    unfold takeT
    rw [takeI_enc _ (InR_i64 (by omega) (by omega))]
    simp only [Bool.not_true, Bool.false_eq_true, if_false]
    rw [if_neg (by omega), if_neg (by omega), if_neg (by simp [e, f]; omega)]
    simp [ofI_bI]
  have t3 : takeN (enc v2.length ++ v2.flatMap enc) v2.length = (v2, [], true) := by
    unfold takeN
    rw [takeI_enc _ (InR_i64 (by omega) (by omega))]
    simp only [Bool.not_true, Bool.false_eq_true, if_false]
    rw [if_neg (by omega), if_neg (by omega), tdiv8 _ (by omega), if_neg (by omega), Int.toNat_natCast, decs_flat v2 hr, List.drop_of_length_le (by omega)]
  have t4 : (takeN ((enc v2.length ++ v2.flatMap enc).take (7 + 8 * v2.length)) v2.length).2.2 = false := by
    unfold takeN
    by_cases hz : v2.length = 0
    · have : takeI ((enc v2.length ++ v2.flatMap enc).take (7 + 8 * v2.length)) = (0, [], false) := if_pos (by rw [List.length_take, List.length_append, e, f]; omega)
      rw [this]
      rfl
    · rw [List.take_append, e, List.take_of_length_le (by rw [e]; omega), takeI_enc _ (InR_i64 (by omega) (by omega))]
      simp only [Bool.not_true, Bool.false_eq_true, if_false]
      rw [if_neg (by omega), if_neg (by omega), tdiv8 _ (by simp; omega), if_pos (by simp [f]; omega)]
  have t5 : (takeT (enc v1.size ++ (bI v1 ++ (enc v2.length ++ v2.flatMap enc))) (v1.size - 1)).2.2 = false := by
    unfold takeT
    rw [takeI_enc _ (InR_i64 (by omega) (by omega))]
    simp only [Bool.not_true, Bool.false_eq_true, if_false]
    rw [if_neg (by omega), if_pos (by omega)]
  rw [t2, bnd3_some, TakeInts_eq _ (by omega) _ _ (by simp [e, f]; omega), t3, bnd3_some]
  have w1 : IntKind.wrap .i64 (8 + IntKind.wrap .i64 (8 * (v2.length : Int))) = 8 + 8 * v2.length := by
    rw [w64 (n := 8 * (v2.length : Int)) (by omega) (by omega), w64 (by omega) (by omega)]
  have w2 : IntKind.wrap .i64 (IntKind.wrap .i64 (IntKind.wrap .i64 (16 + (v1.size : Int)) + 8) + IntKind.wrap .i64 (8 * (v2.length : Int))) = 24 + v1.size + 8 * v2.length := by
    rw [w64 (n := 8 * (v2.length : Int)) (by omega) (by omega), w64 (n := 16 + (v1.size : Int)) (by omega) (by omega), w64 (n := 16 + (v1.size : Int) + 8) (by omega) (by omega), w64 (by omega) (by omega)]; omega
  have w3 : IntKind.wrap .i64 (((enc v2.length ++ v2.flatMap enc).length : Int) - 1) = 7 + 8 * v2.length := by
    rw [w64 (by simp [e, f]; omega) (by simp [e, f]; omega)]; simp [e, f]; omega
  have w4 : IntKind.wrap .i64 ((v1.size : Int) - 1) = v1.size - 1 := w64 (by omega) (by omega)
  have w5 : (7 + 8 * (v2.length : Int)).toNat = 7 + 8 * v2.length := by omega
  rw [w1, w2, w3, w4, w5]
  have s1 : (!true) = true ↔ False := by simp
  rw [if_neg (by simp), if_neg (by simp), if_neg (by simp), if_neg (by simp), if_neg (by simp [strEq_self]), sameInts_eq _ _ _ (by omega) (by omega), bnd1_some, if_neg (by simp), if_neg (by simp), if_neg (by rw [List.length_append, e, f]; omega), if_neg (by simp only [List.length_append, List.length_nil, e, f, hb]; omega), chk_pos (by rw [List.length_append, e, f]; omega),
    TakeInts_eq _ (by omega) _ _ (by simp [e, f]; omega), TakeText_eq _ (by omega) _ _ (by simp [e, f]; omega), awake02]
  generalize takeN ((enc v2.length ++ v2.flatMap enc).take (7 + 8 * v2.length)) v2.length = r at t4
  generalize takeT (enc v1.size ++ (bI v1 ++ (enc v2.length ++ v2.flatMap enc))) (v1.size - 1) = s at t5
  obtain ⟨a, x, b⟩ := r
  obtain ⟨c, y, d⟩ := s
  simp only at t4 t5
  subst t4 t5
  rfl
end Go.TF
