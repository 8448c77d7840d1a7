/- Plain laws of layer 24: encoding and decoding are inverse. -/
import Derived.Test.Ytocmgnljgemjkaa2Pnums
set_option linter.unusedVariables false
set_option linter.unusedSimpArgs false
namespace Go.TF
open Go Go.Abs

theorem bandu (n : Nat) (hn : n < 2 ^ 64) : bitsV .and .u64 (n : Int) 1 = ((n % 2 : Nat) : Int) := by
  unfold bitsV
  simp only
  rw [BitVec.toNat_and, BitVec.toNat_ofInt, BitVec.toNat_ofInt]
  show IntKind.wrap .u64 ((((n : Int) % ((2 ^ 64 : Nat) : Int)).toNat &&& ((1 : Int) % ((2 ^ 64 : Nat) : Int)).toNat : Nat) : Int) = _
  have e1 : ((n : Int) % ((2 ^ 64 : Nat) : Int)).toNat = n := by omega
  have e2 : ((1 : Int) % ((2 ^ 64 : Nat) : Int)).toNat = 1 := by omega
  rw [e1, e2, Nat.and_one_is_mod, wu64 (by omega) (by omega)]
theorem ubit (A : Nat) (hA : A < 2 ^ 64) (i : Nat) (hi : i < 64) : bitsV .and .u64 (Int.fdiv (A : Int) (2 ^ (min ((IntKind.wrap .u64 (i : Int)).toNat) 64))) 1 = ((A / 2 ^ i % 2 : Nat) : Int) := by
  rw [wu64 (by omega) (by omega), Int.toNat_natCast, Nat.min_eq_left (by omega)]
  have : Int.fdiv (A : Int) (2 ^ i) = ((A / 2 ^ i : Nat) : Int) := by
    rw [Int.fdiv_eq_ediv_of_nonneg _ (Int.le_of_lt (Int.pow_pos (by omega)))]; simp
  rw [this, bandu _ (Nat.lt_of_le_of_lt (Nat.div_le_self _ _) hA)]
theorem ubit1 (A : Nat) (hA : A < 2 ^ 64) (i : Nat) (hi : i < 64) : (bitsV .and .u64 (Int.fdiv (A : Int) (2 ^ (min ((IntKind.wrap .u64 (i : Int)).toNat) 64))) 1 = 1) ↔ bitN A i = true := by
  rw [ubit A hA i hi]; unfold bitN; rw [Int.toNat_natCast, decide_eq_true_eq]; omega
theorem ubitb (A : Nat) (hA : A < 2 ^ 64) (i : Nat) (hi : i < 64) : (bitsV .and .u64 (Int.fdiv (A : Int) (2 ^ (min ((IntKind.wrap .u64 (i : Int)).toNat) 64))) 1 == 1) = bitN A i := boolEq (by rw [beq_iff_eq]; exact ubit1 A hA i hi)
theorem orU (lo hi : Nat) (h0 : lo < 2 ^ 32) (h1 : hi < 2 ^ 32) : bitsV .or .u64 (IntKind.wrap .u64 (lo : Int)) (IntKind.wrap .u64 ((IntKind.wrap .u64 (hi : Int)) * 2 ^ (32))) = ((lo + hi * 2 ^ 32 : Nat) : Int) := by
  have hm : ((hi : Int) * 2 ^ 32) = ((hi * 2 ^ 32 : Nat) : Int) := by simp
  rw [wu64 (n := (lo : Int)) (by omega) (by omega), wu64 (n := (hi : Int)) (by omega) (by omega), hm, wu64 (n := ((hi * 2 ^ 32 : Nat) : Int)) (by omega) (by omega)]
  unfold bitsV
  simp only
  rw [BitVec.toNat_or, BitVec.toNat_ofInt, BitVec.toNat_ofInt]
  generalize hP : hi * 2 ^ 32 = P at *
  have hP9 : P < 2 ^ 64 := by omega
  show IntKind.wrap .u64 ((((lo : Int) % ((2 ^ 64 : Nat) : Int)).toNat ||| ((P : Int) % ((2 ^ 64 : Nat) : Int)).toNat : Nat) : Int) = _
  have e1 : ((lo : Int) % ((2 ^ 64 : Nat) : Int)).toNat = lo := by omega
  have e2 : ((P : Int) % ((2 ^ 64 : Nat) : Int)).toNat = P := by omega
  have e3 : lo ||| P = lo + P := by
    have := Nat.two_pow_add_eq_or_of_lt (i := 32) (b := lo) h0 hi
    rw [Nat.mul_comm, hP] at this
    rw [Nat.or_comm, ← this]; omega
  rw [e1, e2, e3, wu64 (by omega) (by omega)]

theorem mem_bits {A : Nat} {i : Nat} (hi : i < 64) : ((i : Int) ∈ sel (bitN A)) ↔ bitN A i = true := by
  rw [mem_sel]
  exact ⟨fun h => h.2.2, fun h => ⟨by omega, by omega, h⟩⟩
theorem back4 (A B : Nat) (hA : A < 2 ^ 64) (hB : B < 2 ^ 64) : ∀ (m i n : Nat), i + m = 64 → m < n → law24_RosterBack.L4 1000 (A : Int) (B : Int) (sel (bitN A)) (sel (bitN B)) (setJ (sel (bitN A)) (sel (bitN B))) (setM (sel (bitN A)) (sel (bitN B))) n (i : Int) = some true
  | 0, i, n + 1, h, _ => by
    have l1 := setM_len (sel (bitN A)) (sel (bitN B))
    have l2 := sel_len (bitN B)
    have l3 := setJ_len (sel (bitN A)) (sel (bitN B))
    rw [law24_RosterBack.L4, if_neg (by omega), Join_eq _ _ _ (by omega) (by omega) (by omega) (by omega) (by omega), bnd1_some]
    have e : setJ (setM (sel (bitN A)) (sel (bitN B))) (sel (bitN B)) = setJ (sel (bitN A)) (sel (bitN B)) := by
      refine eq_sets fun j h1 h2 => ?_
      by_cases x : j ∈ sel (bitN A) <;> by_cases y : j ∈ sel (bitN B) <;> simp [mem_setM, x, y, h1, h2]
    rw [e, same23_refl _ _ (by omega) (by omega), bnd1_some, if_pos rfl, awake24]; rfl
  | m + 1, i, n + 1, h, hn => by
    have l1 := setM_len (sel (bitN A)) (sel (bitN B))
    have l2 := sel_len (bitN A)
    have l3 := setJ_len (sel (bitN A)) (sel (bitN B))
    have hi : i < 64 := by omega
    have hw : IntKind.wrap .u64 (i : Int) = i := wu64 (by omega) (by omega)
    have rc := back4 A B hA hB m (i + 1) n (by omega) (by omega)
    have j1 : decide ((i : Int) ∈ setJ (sel (bitN A)) (sel (bitN B))) = (bitN A i || bitN B i) := by
      apply boolEq; rw [decide_eq_true_eq, mem_setJ, mem_bits hi, mem_bits hi, Bool.or_eq_true]
      exact ⟨fun h => h.2.2, fun h => ⟨by omega, by omega, h⟩⟩
    have j2 : decide ((i : Int) ∈ setM (sel (bitN A)) (sel (bitN B))) = (bitN A i && !bitN B i) := by
      apply boolEq; rw [decide_eq_true_eq, mem_setM, mem_bits hi, mem_bits hi, Bool.and_eq_true, Bool.not_eq_true']
      exact ⟨fun h => ⟨h.2.2.1, by simpa using h.2.2.2⟩, fun h => ⟨by omega, by omega, h.1, by simpa using h.2⟩⟩
    have j3 : decide ((i : Int) ∈ sel (bitN A)) = bitN A i := by
      apply boolEq; rw [decide_eq_true_eq, mem_bits hi]
    rw [law24_RosterBack.L4, if_pos (by omega), chk_pos (by omega), chk_pos (by omega), Has_eq _ _ _ (by omega) (by omega), bnd1_some, Has_eq _ _ _ (by omega) (by omega), bnd1_some, bnd1_some, Has_eq _ _ _ (by omega) (by omega), bnd1_some, bnd1_some, j1, j2, j3, ubitb B hB i hi]
    unfold law24_RosterBack.J5
    dsimp only
    rw [succ64 _ (by omega), rc]
    by_cases a : bitN A i = true
    · rw [if_pos ((ubit1 A hA i hi).2 a)]
      cases b : bitN B i <;> simp [a]
    · rw [if_neg (fun h => a ((ubit1 A hA i hi).1 h))]
      simp only [Bool.not_eq_true] at a
      cases b : bitN B i <;> simp [a]
theorem backE (A B : Nat) (hA : A < 2 ^ 64) (hB : B < 2 ^ 64) (n : Nat) (hn : 0 < n) : law24_RosterBack.L1 1000 (A : Int) (B : Int) n 64 (sel (bitN A)) (sel (bitN B)) = some true := by
  obtain ⟨n, rfl⟩ : ∃ m, n = m + 1 := ⟨n - 1, by omega⟩
  have l1 := sel_len (bitN A)
  have l2 := sel_len (bitN B)
  rw [law24_RosterBack.L1, if_neg (by omega), Encode_eq _ _ (by omega) (by omega)]
  by_cases h0 : A = 0
  · subst h0
    have e : sel (bitN 0) = [] := by
      apply List.eq_nil_iff_forall_not_mem.2
      intro x hx
      have := (mem_sel.1 hx).2.2
      simp [bitN] at this
    rw [e, show encF [] = ([], 43) from rfl, bnd2_some, Decode_eq _ _ (by omega), show decF [] = ([], 43) from rfl, bnd2_some, if_pos (show ((0 : Nat) : Int) = 0 from rfl), if_pos rfl, if_pos rfl, awake24]; rfl
  rw [encF_bits A hA h0, bnd2_some, Decode_eq _ _ (by omega), decF_bits A hA h0, bnd2_some, if_neg (by omega), Join_eq _ _ _ (by omega) (by omega) (by omega) (by omega) (by omega), bnd1_some, Minus_eq _ _ _ (by omega) (by omega) (by omega) (by omega) (by omega), bnd1_some, if_neg (by simp), if_neg (by simp), same23_refl _ _ (by omega) (by omega), bnd1_some, if_neg (by simp), if_neg (by simp)]
  have i0 : ∀ (x y : Int) (f : Int → Option Bool), idx [x, y] 0 f = f x := fun x y f => idx_pos (l := [x, y]) (i := 0) (f := f) (by simp)
  have i1 : ∀ (x y : Int) (f : Int → Option Bool), idx [x, y] 1 f = f y := fun x y f => idx_pos (l := [x, y]) (i := 1) (f := f) (by simp)
  rw [i0, i1, orU _ _ (by omega) (by omega), if_neg (by omega)]
  exact back4 A B hA hB 64 0 1000 rfl (by omega)
theorem back1 (A B : Nat) (hA : A < 2 ^ 64) (hB : B < 2 ^ 64) : ∀ (m i n : Nat) (x y : List Int), i + m = 64 → m < n → x.length ≤ i → y.length ≤ i → x ++ selF (bitN A) m i = sel (bitN A) → y ++ selF (bitN B) m i = sel (bitN B) → law24_RosterBack.L1 1000 (A : Int) (B : Int) n (i : Int) x y = some true
  | 0, i, n + 1, x, y, h, _, _, _, hx, hy => by
    obtain rfl : i = 64 := by omega
    simp only [selF, List.append_nil] at hx hy
    rw [hx, hy]
    exact backE A B hA hB (n + 1) (by omega)
  | m + 1, i, n + 1, x, y, h, hn, lx, ly, hx, hy => by
    have hi : i < 64 := by omega
    have hw : IntKind.wrap .u64 (i : Int) = i := wu64 (by omega) (by omega)
    rw [selF] at hx hy
    rw [law24_RosterBack.L1, if_pos (by omega), chk_pos (by omega)]
    unfold law24_RosterBack.J3 law24_RosterBack.J2
    dsimp only
    rw [succ64 _ (by omega)]
    have cx : ∀ z : List Int, z.length ≤ i → ((z.length + ([(i : Int)] : List Int).length) * 8 ≤ 140737488355328) := by intro z hz; simp only [List.length_cons, List.length_nil]; omega
    simp only [chk_pos (cx x lx), chk_pos (cx y ly), chk_pos (show (0 : Int) ≤ IntKind.wrap .u64 (i : Int) by omega)]
    by_cases a : bitN A i = true
    · rw [if_pos ((ubit1 A hA i hi).2 a)]
      rw [if_pos a] at hx
      by_cases b : bitN B i = true
      · rw [if_pos ((ubit1 B hB i hi).2 b)]
        rw [if_pos b] at hy
        exact back1 A B hA hB m (i + 1) n _ _ (by omega) (by omega) (by simp; omega) (by simp; omega) (by simpa using hx) (by simpa using hy)
      · rw [if_neg (fun h => b ((ubit1 B hB i hi).1 h))]
        rw [if_neg b] at hy
        exact back1 A B hA hB m (i + 1) n _ _ (by omega) (by omega) (by simp; omega) (by omega) (by simpa using hx) hy
    · rw [if_neg (fun h => a ((ubit1 A hA i hi).1 h))]
      rw [if_neg a] at hx
      by_cases b : bitN B i = true
      · rw [if_pos ((ubit1 B hB i hi).2 b)]
        rw [if_pos b] at hy
        exact back1 A B hA hB m (i + 1) n _ _ (by omega) (by omega) (by omega) (by simp; omega) hx (by simpa using hy)
      · rw [if_neg (fun h => b ((ubit1 B hB i hi).1 h))]
        rw [if_neg b] at hy
        exact back1 A B hA hB m (i + 1) n _ _ (by omega) (by omega) (by omega) (by omega) hx hy
theorem RosterBack_true (v0 v1 : Int) (h0 : Fit (.int .u64 v0)) (h1 : Fit (.int .u64 v1)) : law24_RosterBack 1000 v0 v1 = some true := by
  have h0 : 0 ≤ v0 ∧ v0 ≤ 18446744073709551615 := by simpa [Fit, InR, IntKind.min, IntKind.max, IntKind.bits, IntKind.signed] using h0
  have h1 : 0 ≤ v1 ∧ v1 ≤ 18446744073709551615 := by simpa [Fit, InR, IntKind.min, IntKind.max, IntKind.bits, IntKind.signed] using h1
  obtain ⟨A, rfl⟩ := Int.eq_ofNat_of_zero_le h0.1
  obtain ⟨B, rfl⟩ := Int.eq_ofNat_of_zero_le h1.1
  unfold law24_RosterBack
  exact back1 A B (by omega) (by omega) 64 0 1000 [] [] rfl (by omega) (by simp) (by simp) rfl rfl
end Go.TF
