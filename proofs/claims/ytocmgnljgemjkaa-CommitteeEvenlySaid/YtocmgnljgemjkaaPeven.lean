/- Plain laws of layer 26: all ways of drawing. -/
import Derived.Test.YtocmgnljgemjkaaPmaj
set_option linter.unusedVariables false
set_option linter.unusedSimpArgs false
namespace Go.TF
open Go Go.Abs
set_option maxRecDepth 100000

theorem even5 (k : Nat) (v4 : List Int) (v8 : Int) (v9 v13 : List Int) (kb kb' : Int → List Int → Option Bool) (h : ∀ a b, kb a b = kb' a b) : ∀ n a b, law26_CommitteeEvenly.L5 k v4 v8 v9 v13 kb n a b = law26_CommitteeEvenly.L5 k v4 v8 v9 v13 kb' n a b := by
  obtain rfl : kb = kb' := by funext a b; exact h a b
  intros; rfl
section
variable (k : Nat) (v0 v1 u0 u1 : Int) (h0 : Int.tmod (IntKind.wrap .i64 v0) 5 = Int.tmod (IntKind.wrap .i64 u0) 5) (h1 : Int.tmod (IntKind.wrap .i64 v1) 3 = Int.tmod (IntKind.wrap .i64 u1) 3)
include h0 h1
theorem even4 (v4 : List Int) (v5 v8 : Int) (v9 : List Int) (kb : Int → List Int → Option Bool) : ∀ n a b c, law26_CommitteeEvenly.L4 k v0 v1 v4 v5 v8 v9 kb n a b c = law26_CommitteeEvenly.L4 k u0 u1 v4 v5 v8 v9 kb n a b c := by
  intro n
  induction n with
  | zero => intros; rfl
  | succ n ih => intro a b c; rw [law26_CommitteeEvenly.L4, law26_CommitteeEvenly.L4]; simp only [h0, h1, ih]
theorem even3 (v4 : List Int) (v5 v6 : Int) : ∀ n a b, law26_CommitteeEvenly.L3 k v0 v1 v4 v5 v6 n a b = law26_CommitteeEvenly.L3 k u0 u1 v4 v5 v6 n a b := by
  intro n
  induction n with
  | zero => intros; rfl
  | succ n ih => intro a b; rw [law26_CommitteeEvenly.L3, law26_CommitteeEvenly.L3]; simp only [even4 k v0 v1 u0 u1 h0 h1, ih]
theorem even2 (v4 : List Int) (v5 : Int) : ∀ n a b, law26_CommitteeEvenly.L2 k v0 v1 v4 v5 n a b = law26_CommitteeEvenly.L2 k u0 u1 v4 v5 n a b := by
  intro n
  induction n with
  | zero => intros; rfl
  | succ n ih => intro a b; rw [law26_CommitteeEvenly.L2, law26_CommitteeEvenly.L2]; simp only [even3 k v0 v1 u0 u1 h0 h1, h0, h1, ih]
theorem even1 : ∀ n a b, law26_CommitteeEvenly.L1 k v0 v1 n a b = law26_CommitteeEvenly.L1 k u0 u1 n a b := by
  intro n
  induction n with
  | zero => intros; rfl
  | succ n ih => intro a b; rw [law26_CommitteeEvenly.L1, law26_CommitteeEvenly.L1]; simp only [even2 k v0 v1 u0 u1 h0 h1, h0, h1, ih]
end
theorem even_00 : law26_CommitteeEvenly 1000 0 0 = some true := by decide +kernel
theorem even_01 : law26_CommitteeEvenly 1000 0 1 = some true := by decide +kernel
theorem even_02 : law26_CommitteeEvenly 1000 0 2 = some true := by decide +kernel
theorem even_10 : law26_CommitteeEvenly 1000 1 0 = some true := by decide +kernel
theorem even_11 : law26_CommitteeEvenly 1000 1 1 = some true := by decide +kernel
theorem even_12 : law26_CommitteeEvenly 1000 1 2 = some true := by decide +kernel
theorem even_20 : law26_CommitteeEvenly 1000 2 0 = some true := by decide +kernel
theorem even_21 : law26_CommitteeEvenly 1000 2 1 = some true := by decide +kernel
theorem even_22 : law26_CommitteeEvenly 1000 2 2 = some true := by decide +kernel
theorem even_30 : law26_CommitteeEvenly 1000 3 0 = some true := by decide +kernel
theorem even_31 : law26_CommitteeEvenly 1000 3 1 = some true := by decide +kernel
theorem even_32 : law26_CommitteeEvenly 1000 3 2 = some true := by decide +kernel
theorem even_40 : law26_CommitteeEvenly 1000 4 0 = some true := by decide +kernel
theorem even_41 : law26_CommitteeEvenly 1000 4 1 = some true := by decide +kernel
theorem even_42 : law26_CommitteeEvenly 1000 4 2 = some true := by decide +kernel
theorem CommitteeEvenly_true (v0 v1 : Int) (h0 : Fit (.int .u8 v0)) (h1 : Fit (.int .u8 v1)) : law26_CommitteeEvenly 1000 v0 v1 = some true := by
  have h0 := InR.u8 h0
  have h1 := InR.u8 h1
  have hx := tmod_range v0 5 (by omega) (by omega)
  have hy := tmod_range v1 3 (by omega) (by omega)
  have e0 : Int.tmod (IntKind.wrap .i64 v0) 5 = Int.tmod (IntKind.wrap .i64 (Int.tmod v0 5)) 5 := by
    rw [w64 (n := v0) (by omega) (by omega), w64 (n := Int.tmod v0 5) (by omega) (by omega), Int.tmod_eq_emod_of_nonneg hx.1, Int.emod_eq_of_lt hx.1 hx.2]
  have e1 : Int.tmod (IntKind.wrap .i64 v1) 3 = Int.tmod (IntKind.wrap .i64 (Int.tmod v1 3)) 3 := by
    rw [w64 (n := v1) (by omega) (by omega), w64 (n := Int.tmod v1 3) (by omega) (by omega), Int.tmod_eq_emod_of_nonneg hy.1, Int.emod_eq_of_lt hy.1 hy.2]
  have e2 : law26_CommitteeEvenly 1000 v0 v1 = law26_CommitteeEvenly 1000 (Int.tmod v0 5) (Int.tmod v1 3) := even1 1000 v0 v1 _ _ e0 e1 1000 0 []
  rw [e2]
  generalize Int.tmod v0 5 = x at hx
  generalize Int.tmod v1 3 = y at hy
  have a : x = 0 ∨ x = 1 ∨ x = 2 ∨ x = 3 ∨ x = 4 := by omega
  have b : y = 0 ∨ y = 1 ∨ y = 2 := by omega
  rcases a with rfl | rfl | rfl | rfl | rfl <;> rcases b with rfl | rfl | rfl
  · exact even_00
  · exact even_01
  · exact even_02
  · exact even_10
  · exact even_11
  · exact even_12
  · exact even_20
  · exact even_21
  · exact even_22
  · exact even_30
  · exact even_31
  · exact even_32
  · exact even_40
  · exact even_41
  · exact even_42
end Go.TF
