/- Plain laws of layer 24: sets and numbers. -/
import Derived.Test.YtepdfenlkeaefaaIPros
set_option linter.unusedVariables false
set_option linter.unusedSimpArgs false
namespace Go.TF
open Go Go.Abs
theorem maxLen_le : maxLen = 9223372036854775807 := by decide
theorem eq_sets {p q : Int → Bool} (h : ∀ j : Int, 0 ≤ j → j < 64 → p j = q j) : sel p = sel q := sel_congr fun j hj => h j (by omega) (by omega)
theorem mem_setJ {a b : List Int} {x : Int} : x ∈ setJ a b ↔ 0 ≤ x ∧ x < 64 ∧ (x ∈ a ∨ x ∈ b) := by
 unfold setJ; rw [mem_sel]; simp
theorem mem_setM {a b : List Int} {x : Int} : x ∈ setM a b ↔ 0 ≤ x ∧ x < 64 ∧ (x ∈ a ∧ ¬ x ∈ b) := by
 unfold setM; rw [mem_sel]; simp
theorem boolEq {p q : Bool} (h : p = true ↔ q = true) : p = q := by cases p <;> cases q <;> simp_all
def encStep (v5 : List Int) (x : Int) : List Int :=
 v5.set (x / 32).toNat (bitsV .or .i64 (v5.getD (x / 32).toNat 0) (IntKind.wrap .i64 (1 * 2 ^ (min ((x % 32).toNat) 64))))
theorem encStep_len (v5 : List Int) (x : Int) : (encStep v5 x).length = v5.length := by simp [encStep]
def encF (l : List Int) : List Int × Int := if okR l = true then (l.foldl encStep [0, 0], 0) else ([], 43)
theorem td32 (x : Int) (h0 : 0 ≤ x) (h1 : x < 64) : IntKind.wrap .i64 (Int.tdiv x 32) = x / 32 := by
 rw [Int.tdiv_eq_ediv_of_nonneg h0, w64 (by omega) (by omega)]
theorem tm32 (x : Int) (h0 : 0 ≤ x) : Int.tmod x 32 = x % 32 := Int.tmod_eq_emod_of_nonneg h0
def dbit (l : List Int) (j : Int) : Bool := decide (bitsV .and .i64 (Int.fdiv (l.getD (j / 32).toNat 0) (2 ^ (min ((j % 32).toNat) 64))) 1 = 1)
def badN (x : Int) : Bool := decide (x < 0) || decide (4294967296 ≤ x)
def decF (l : List Int) : List Int × Int :=
 match l with
 | [a, b] => if badN a || badN b then ([], 43) else if a = 0 ∧ b = 0 then ([], 43) else (sel (dbit [a, b]), 0)
 | _ => ([], 43)
theorem encF_len (l : List Int) : (encF l).1.length ≤ 2 := by
 unfold encF
 have : ∀ (m : List Int) (v : List Int), (m.foldl encStep v).length = v.length := by
  intro m
  induction m with
  | nil => intro v; rfl
  | cons x m ih => intro v; rw [List.foldl_cons, ih, encStep_len]
 split <;> simp [this]
theorem decF_len (l : List Int) : (decF l).1.length ≤ 64 := by
 unfold decF
 split
 ·split
  ·simp
  ·split
   ·simp
   ·exact sel_len _
 ·simp
end Go.TF
