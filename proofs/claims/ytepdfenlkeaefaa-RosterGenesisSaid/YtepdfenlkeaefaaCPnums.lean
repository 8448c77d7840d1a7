/- Plain laws of layer 24: pairs of numbers and lists of keys. -/
import Derived.Test.YtepdfenlkeaefaaCPsets
set_option linter.unusedVariables false
set_option linter.unusedSimpArgs false
namespace Go.TF
open Go Go.Abs

theorem band1 (k : IntKind) (x : Int) (h0 : 0 ≤ x) (h1 : x < 4294967296) (hk : k = .i64 ∨ k = .u64) : bitsV .and k x 1 = x % 2 := by
  unfold bitsV
  obtain ⟨n, rfl⟩ := Int.eq_ofNat_of_zero_le h0
  have hn : n < 2 ^ 64 := by omega
  have e : (n &&& 1) = n % 2 := Nat.and_one_is_mod n
  rcases hk with rfl | rfl
  · simp only
    rw [BitVec.toNat_and, BitVec.toNat_ofInt, BitVec.toNat_ofInt]
    show IntKind.wrap .i64 ((((n : Int) % ((2 ^ 64 : Nat) : Int)).toNat &&& ((1 : Int) % ((2 ^ 64 : Nat) : Int)).toNat : Nat) : Int) = _
    have e1 : ((n : Int) % ((2 ^ 64 : Nat) : Int)).toNat = n := by omega
    have e2 : ((1 : Int) % ((2 ^ 64 : Nat) : Int)).toNat = 1 := by omega
    rw [e1, e2, e, w64 (by omega) (by omega)]; omega
  · simp only
    rw [BitVec.toNat_and, BitVec.toNat_ofInt, BitVec.toNat_ofInt]
    show IntKind.wrap .u64 ((((n : Int) % ((2 ^ 64 : Nat) : Int)).toNat &&& ((1 : Int) % ((2 ^ 64 : Nat) : Int)).toNat : Nat) : Int) = _
    have e1 : ((n : Int) % ((2 ^ 64 : Nat) : Int)).toNat = n := by omega
    have e2 : ((1 : Int) % ((2 ^ 64 : Nat) : Int)).toNat = 1 := by omega
    rw [e1, e2, e, wu64 (by omega) (by omega)]; omega
/-- Bit j of a number. -/
def bitI (x : Int) (j : Nat) : Bool := decide (x / 2 ^ j % 2 = 1)
theorem dbit_eq (a b : Int) (ha : 0 ≤ a ∧ a < 4294967296) (hb : 0 ≤ b ∧ b < 4294967296) (j : Nat) (hj : j < 64) : dbit [a, b] j = if j < 32 then bitI a j else bitI b (j - 32) := by
  unfold dbit bitI
  have hm : min (((j : Int) % 32).toNat) 64 = j % 32 := by omega
  rw [hm]
  have hd : ∀ x : Int, 0 ≤ x ∧ x < 4294967296 → ∀ i : Nat, Int.fdiv x (2 ^ i) = x / 2 ^ i ∧ 0 ≤ x / 2 ^ i ∧ x / 2 ^ i < 4294967296 := by
    intro x hx i
    have hp : (0 : Int) < 2 ^ i := Int.pow_pos (by omega)
    refine ⟨Int.fdiv_eq_ediv_of_nonneg _ (by omega), Int.ediv_nonneg hx.1 (by omega), ?_⟩
    exact Int.lt_of_le_of_lt (Int.ediv_le_self _ hx.1) hx.2
  by_cases h : j < 32
  · have e1 : ((j : Int) / 32).toNat = 0 := by omega
    have e2 : j % 32 = j := by omega
    obtain ⟨d1, d2, d3⟩ := hd a ha j
    rw [if_pos h, e1, e2]
    simp only [List.getD_cons_zero]
    rw [d1, band1 _ _ d2 d3 (.inl rfl)]
  · have e1 : ((j : Int) / 32).toNat = 1 := by omega
    have e2 : j % 32 = j - 32 := by omega
    obtain ⟨d1, d2, d3⟩ := hd b hb (j - 32)
    rw [if_neg h, e1, e2]
    simp only [List.getD_cons_succ, List.getD_cons_zero]
    rw [d1, band1 _ _ d2 d3 (.inl rfl)]

/-- Bit j of a natural number. -/
def bitN (A : Nat) (j : Int) : Bool := decide (A / 2 ^ j.toNat % 2 = 1)
theorem dbitA (A : Nat) (hA : A < 2 ^ 64) (j : Nat) (hj : j < 64) : dbit [((A % 2 ^ 32 : Nat) : Int), ((A / 2 ^ 32 : Nat) : Int)] j = bitN A j := by
  rw [dbit_eq _ _ (by omega) (by omega) j hj]
  unfold bitI bitN
  rw [Int.toNat_natCast]
  have c : ∀ (x i : Nat), ((x : Int) / 2 ^ i % 2 = 1) ↔ (x / 2 ^ i % 2 = 1) := by
    intro x i
    have : ((x : Int) / 2 ^ i % 2) = ((x / 2 ^ i % 2 : Nat) : Int) := by simp
    rw [this]; omega
  split
  · rename_i h
    simp only [c]
    have : A % 2 ^ 32 / 2 ^ j % 2 = A / 2 ^ j % 2 := by
      have e : (2 : Nat) ^ 32 = 2 ^ j * 2 ^ (32 - j) := by rw [← Nat.pow_add]; congr 1; omega
      rw [e, Nat.mod_mul_right_div_self, Nat.mod_mod_of_dvd]
      exact ⟨2 ^ (31 - j), by rw [← Nat.pow_succ']; congr 1; omega⟩
    simp only [this]
  · rename_i h
    simp only [c]
    have : A / 2 ^ 32 / 2 ^ (j - 32) = A / 2 ^ j := by
      rw [Nat.div_div_eq_div_mul, ← Nat.pow_add]; congr 2; omega
    simp only [this]
theorem orN (x r : Nat) (hr : r < 32) (hx : x < 2 ^ r) : bitsV .or .i64 (x : Int) (IntKind.wrap .i64 (1 * 2 ^ r)) = ((x + 2 ^ r : Nat) : Int) := by
  have h32 : 2 ^ r ≤ 2 ^ 31 := Nat.pow_le_pow_right (by omega) (by omega)
  have hp : (1 * 2 ^ r : Int) = ((2 ^ r : Nat) : Int) := by simp
  rw [hp, w64 (by omega) (by omega)]
  unfold bitsV
  simp only
  rw [BitVec.toNat_or, BitVec.toNat_ofInt, BitVec.toNat_ofInt]
  generalize hP : 2 ^ r = P at *
  show IntKind.wrap .i64 ((((x : Int) % ((2 ^ 64 : Nat) : Int)).toNat ||| ((P : Int) % ((2 ^ 64 : Nat) : Int)).toNat : Nat) : Int) = _
  have e1 : ((x : Int) % ((2 ^ 64 : Nat) : Int)).toNat = x := by omega
  have e2 : ((P : Int) % ((2 ^ 64 : Nat) : Int)).toNat = P := by omega
  have e3 : x ||| P = x + P := by
    have := Nat.two_pow_add_eq_or_of_lt (i := r) (b := x) (by omega) 1
    rw [hP, Nat.mul_one] at this
    rw [Nat.or_comm, ← this]; omega
  rw [e1, e2, e3, w64 (by omega) (by omega)]
theorem foldA (A : Nat) : ∀ (m i : Nat), i + m = 64 → (selF (bitN A) m i).foldl encStep [((A % 2 ^ (min i 32) : Nat) : Int), ((A / 2 ^ 32 % 2 ^ (i - 32) : Nat) : Int)] = [((A % 2 ^ (min 64 32) : Nat) : Int), ((A / 2 ^ 32 % 2 ^ (64 - 32) : Nat) : Int)]
  | 0, i, h => by
    obtain rfl : i = 64 := by omega
    rfl
  | m + 1, i, h => by
    have ih := foldA A m (i + 1) (by omega)
    rw [← ih]
    have hm : min (((i : Int) % 32).toNat) 64 = i % 32 := by omega
    have step : ∀ B k : Nat, B % 2 ^ (k + 1) = B % 2 ^ k + 2 ^ k * (B / 2 ^ k % 2) := fun B k => by rw [Nat.pow_succ, Nat.mod_mul]
    have hb : (bitN A (i : Int) = true) ↔ A / 2 ^ i % 2 = 1 := by unfold bitN; rw [Int.toNat_natCast, decide_eq_true_eq]
    rw [selF]
    by_cases hi : i < 32
    · have m1 : min i 32 = i := by omega
      have m2 : min (i + 1) 32 = i + 1 := by omega
      have m3 : i - 32 = 0 := by omega
      have m4 : i + 1 - 32 = 0 := by omega
      rw [m1, m2, m3, m4, step A i]
      split
      · rename_i h1
        rw [List.foldl_cons]
        congr 1
        rw [hb.1 h1, Nat.mul_one]
        unfold encStep
        rw [hm, show ((i : Int) / 32).toNat = 0 by omega, show i % 32 = i by omega]
        simp only [List.getD_cons_zero, List.set_cons_zero]
        rw [orN _ _ hi (Nat.mod_lt _ (Nat.two_pow_pos i))]
      · rename_i h1
        have : A / 2 ^ i % 2 = 0 := by have := mt hb.2 h1; omega
        rw [this]; rfl
    · have m1 : min i 32 = 32 := by omega
      have m2 : min (i + 1) 32 = 32 := by omega
      have m3 : i + 1 - 32 = (i - 32) + 1 := by omega
      have hd : A / 2 ^ 32 / 2 ^ (i - 32) = A / 2 ^ i := by rw [Nat.div_div_eq_div_mul, ← Nat.pow_add]; congr 2; omega
      rw [m1, m2, m3, step (A / 2 ^ 32) (i - 32), hd]
      split
      · rename_i h1
        rw [List.foldl_cons]
        congr 1
        rw [hb.1 h1, Nat.mul_one]
        unfold encStep
        rw [hm, show ((i : Int) / 32).toNat = 1 by omega, show i % 32 = i - 32 by omega]
        simp only [List.getD_cons_succ, List.getD_cons_zero, List.set_cons_succ, List.set_cons_zero]
        rw [orN _ _ (by omega) (Nat.mod_lt _ (Nat.two_pow_pos _))]
      · rename_i h1
        have : A / 2 ^ i % 2 = 0 := by have := mt hb.2 h1; omega
        rw [this]; rfl
theorem foldAll (A : Nat) (hA : A < 2 ^ 64) : (sel (bitN A)).foldl encStep [0, 0] = [((A % 2 ^ 32 : Nat) : Int), ((A / 2 ^ 32 : Nat) : Int)] := by
  have h := foldA A 64 0 rfl
  have e1 : A % 2 ^ (min 0 32) = 0 := by simp [Nat.mod_one]
  have e2 : A / 2 ^ 32 % 2 ^ (0 - 32) = 0 := by simp [Nat.mod_one]
  have e3 : A / 2 ^ 32 % 2 ^ (64 - 32) = A / 2 ^ 32 := by omega
  rw [e1, e2, e3] at h
  exact h
theorem sel_ne (A : Nat) (hA : A < 2 ^ 64) (h0 : A ≠ 0) : sel (bitN A) ≠ [] := by
  intro h
  have := foldAll A hA
  rw [h] at this
  simp at this
  omega
theorem encF_bits (A : Nat) (hA : A < 2 ^ 64) (h0 : A ≠ 0) : encF (sel (bitN A)) = ([((A % 2 ^ 32 : Nat) : Int), ((A / 2 ^ 32 : Nat) : Int)], 0) := by
  unfold encF
  rw [if_pos (okR_sel _ (sel_ne A hA h0)), foldAll A hA]
theorem decF_bits (A : Nat) (hA : A < 2 ^ 64) (h0 : A ≠ 0) : decF [((A % 2 ^ 32 : Nat) : Int), ((A / 2 ^ 32 : Nat) : Int)] = (sel (bitN A), 0) := by
  unfold decF badN
  simp only
  rw [if_neg (by simp; omega), if_neg (by omega)]
  congr 1
  exact sel_congr fun j hj => dbitA A hA j hj

end Go.TF
