/- Plain laws: what the pieces of the Lean functions say. -/
import Derived.Test.YtjmcidiplbkmpaaRa2Pu
import Derived.Test.YtjmcidiplbkmpaaBrF
set_option linter.unusedVariables false
set_option linter.unusedSimpArgs false
namespace Go.TF
open Go Go.Abs
theorem chk_pos {α : Type} {c : Prop} [Decidable c] {x : Option α} (h : c) : chk c x = x := by simp [chk, h]
theorem idx_pos {α β : Type} {l : List α} {i : Nat} {f : α → Option β} (h : i < l.length) : idx l (i : Int) f = f l[i] := by
 simp [idx, h]
@[simp] theorem bnd1_some {α γ : Type} (a : α) (f : α → Option γ) : bnd1 (some a) f = f a := rfl
@[simp] theorem bnd2_some {α β γ : Type} (a : α) (b : β) (f : α → β → Option γ) : bnd2 (some (a, b)) f = f a b := rfl
@[simp] theorem bnd3_some {α β δ γ : Type} (a : α) (b : β) (c : δ) (f : α → β → δ → Option γ) : bnd3 (some (a, b, c)) f = f a b c := rfl
@[simp] theorem bnd4_some {α β δ ε γ : Type} (a : α) (b : β) (c : δ) (d : ε) (f : α → β → δ → ε → Option γ) : bnd4 (some (a, b, c, d)) f = f a b c d := rfl
@[simp] theorem let1_eq {α γ : Type} (x : α) (f : α → Option γ) : let1 x f = f x := rfl
theorem w64 {n : Int} (h1 : -9223372036854775808 ≤ n) (h2 : n ≤ 9223372036854775807) : IntKind.wrap .i64 n = n := wrap64 h1 h2
theorem wu64 {n : Int} (h1 : 0 ≤ n) (h2 : n ≤ 18446744073709551615) : IntKind.wrap .u64 n = n := wrapI .u64 (by simpa [IntKind.min, IntKind.bits, IntKind.signed] using h1) (by simpa [IntKind.max, IntKind.bits, IntKind.signed] using h2)
theorem wu8_def (n : Int) : IntKind.wrap .u8 n = n % 256 := by simp [IntKind.wrap]
theorem wu64_def (n : Int) : IntKind.wrap .u64 n = n % 18446744073709551616 := by simp [IntKind.wrap]
theorem wi64_def (n : Int) : IntKind.wrap .i64 n = if n % 18446744073709551616 < 9223372036854775808 then n % 18446744073709551616 else n % 18446744073709551616 - 18446744073709551616 := by
 simp only [IntKind.wrap, IntKind.signed, IntKind.bits]
 simp
 split <;> split <;> omega
theorem ite_pos' {α : Type} {c : Prop} [Decidable c] {x y : α} (h : c) : (if c then x else y) = x := if_pos h
theorem strEq_self (a : ByteArray) : strEq a a = true := by simp [strEq]
theorem strEq_iff (a b : ByteArray) : strEq a b = true ↔ a = b := by
 simp only [strEq, beq_iff_eq]
 constructor
 ·intro h
  cases a; cases b
  simp at h
  simp [h]
 ·rintro rfl; rfl
end Go.TF
