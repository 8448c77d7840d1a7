/- Plain laws of layer 24: encoding and decoding are inverse. -/
import Derived.Test.YtepdfenlkeaefaaCPnums
set_option linter.unusedVariables false
set_option linter.unusedSimpArgs false
namespace Go.TF
open Go Go.Abs

theorem bandu (n : Nat) (hn : n < 2 ^ 64) : bitsV .and .u64 (n : Int) 1 = ((n % 2 : Nat) : Int) := by
  unfold bitsV
  simp only
  rw [BitVec.toNat_and, BitVec.toNat_ofInt, BitVec.toNat_ofInt]
  show IntKind.wrap .u64 ((((n : Int) % ((2 ^ 64 : Nat) : Int)).toNat &&& ((1 : Int) % ((2 ^ 64 : Nat) : Int)).toNat : Nat) : Int) = _
  have e1 : ((n : Int) % ((2 ^ 64 : Nat) : Int)).toNat = n := by omega
  have e2 : ((1 : Int) % ((2 ^ 64 : Nat) : Int)).toNat = 1 := by omega
  rw [e1, e2, Nat.and_one_is_mod, wu64 (by omega) (by omega)]
theorem ubit (A : Nat) (hA : A < 2 ^ 64) (i : Nat) (hi : i < 64) : bitsV .and .u64 (Int.fdiv (A : Int) (2 ^ (min ((IntKind.wrap .u64 (i : Int)).toNat) 64))) 1 = ((A / 2 ^ i % 2 : Nat) : Int) := by
  rw [wu64 (by omega) (by omega), Int.toNat_natCast, Nat.min_eq_left (by omega)]
  have : Int.fdiv (A : Int) (2 ^ i) = ((A / 2 ^ i : Nat) : Int) := by
    rw [Int.fdiv_eq_ediv_of_nonneg _ (Int.le_of_lt (Int.pow_pos (by omega)))]; simp
  rw [this, bandu _ (Nat.lt_of_le_of_lt (Nat.div_le_self _ _) hA)]
theorem ubit1 (A : Nat) (hA : A < 2 ^ 64) (i : Nat) (hi : i < 64) : (bitsV .and .u64 (Int.fdiv (A : Int) (2 ^ (min ((IntKind.wrap .u64 (i : Int)).toNat) 64))) 1 = 1) ↔ bitN A i = true := by
  rw [ubit A hA i hi]; unfold bitN; rw [Int.toNat_natCast, decide_eq_true_eq]; omega
theorem ubitb (A : Nat) (hA : A < 2 ^ 64) (i : Nat) (hi : i < 64) : (bitsV .and .u64 (Int.fdiv (A : Int) (2 ^ (min ((IntKind.wrap .u64 (i : Int)).toNat) 64))) 1 == 1) = bitN A i := boolEq (by rw [beq_iff_eq]; exact ubit1 A hA i hi)
theorem orU (lo hi : Nat) (h0 : lo < 2 ^ 32) (h1 : hi < 2 ^ 32) : bitsV .or .u64 (IntKind.wrap .u64 (lo : Int)) (IntKind.wrap .u64 ((IntKind.wrap .u64 (hi : Int)) * 2 ^ (32))) = ((lo + hi * 2 ^ 32 : Nat) : Int) := by
  have hm : ((hi : Int) * 2 ^ 32) = ((hi * 2 ^ 32 : Nat) : Int) := by simp
  rw [wu64 (n := (lo : Int)) (by omega) (by omega), wu64 (n := (hi : Int)) (by omega) (by omega), hm, wu64 (n := ((hi * 2 ^ 32 : Nat) : Int)) (by omega) (by omega)]
  unfold bitsV
  simp only
  rw [BitVec.toNat_or, BitVec.toNat_ofInt, BitVec.toNat_ofInt]
  generalize hP : hi * 2 ^ 32 = P at *
  have hP9 : P < 2 ^ 64 := by omega
  show IntKind.wrap .u64 ((((lo : Int) % ((2 ^ 64 : Nat) : Int)).toNat ||| ((P : Int) % ((2 ^ 64 : Nat) : Int)).toNat : Nat) : Int) = _
  have e1 : ((lo : Int) % ((2 ^ 64 : Nat) : Int)).toNat = lo := by omega
  have e2 : ((P : Int) % ((2 ^ 64 : Nat) : Int)).toNat = P := by omega
  have e3 : lo ||| P = lo + P := by
    have := Nat.two_pow_add_eq_or_of_lt (i := 32) (b := lo) h0 hi
    rw [Nat.mul_comm, hP] at this
    rw [Nat.or_comm, ← this]; omega
  rw [e1, e2, e3, wu64 (by omega) (by omega)]

theorem mem_bits {A : Nat} {i : Nat} (hi : i < 64) : ((i : Int) ∈ sel (bitN A)) ↔ bitN A i = true := by
  rw [mem_sel]
  exact ⟨fun h => h.2.2, fun h => ⟨by omega, by omega, h⟩⟩
end Go.TF
