/- Plain laws of layer 26: what a majority bears. -/
import Derived.Test.YtepdfenlkeaefaaJPl
set_option linter.unusedVariables false
set_option linter.unusedSimpArgs false
namespace Go.TF
open Go Go.Abs

theorem awake26 : law26_awake 1000 = some true := by decide +kernel

theorem tmod_range (a b : Int) (h : 0 ≤ a) (hb : 0 < b) : 0 ≤ Int.tmod a b ∧ Int.tmod a b < b := by
  rw [Int.tmod_eq_emod_of_nonneg h]
  exact ⟨Int.emod_nonneg _ (by omega), Int.emod_lt_of_pos _ hb⟩

def majG (n f a : Int) : Option Bool :=
  let m := IntKind.wrap .i64
  let J := fun b : Bool => if (!b) = true then
      bnd1 (committee_Enough 1000 n n) fun v5 => if v5 = true then bnd1 (committee_Enough 1000 0 n) fun v6 => if (!v6) = true then bnd1 (committee_Enough 1000 (m (Int.tdiv n 2)) n) fun v7 => if (!v7) = true then bnd1 (law26_awake 1000) fun v8 => some v8 else some false else some false else some false
    else if n < m (2 * f) then
      bnd1 (committee_Enough 1000 n n) fun v5 => if v5 = true then bnd1 (committee_Enough 1000 0 n) fun v6 => if (!v6) = true then bnd1 (committee_Enough 1000 (m (Int.tdiv n 2)) n) fun v7 => if (!v7) = true then bnd1 (law26_awake 1000) fun v8 => some v8 else some false else some false else some false
    else some false
  bnd1 (committee_Enough 1000 (m (a + f)) n) fun v13 => if v13 = true then bnd1 (committee_Enough 1000 (m (m (m (n - f) - a) + f)) n) fun v14 => J v14 else J false

def majAll : Bool := (List.range 10).all fun n => (List.range 10).all fun f => (List.range 10).all fun a => !(decide (1 ≤ n) && decide (f ≤ n) && decide (a ≤ n - f)) || decide (majG (n : Int) (f : Int) (a : Int) = some true)
theorem majAll_true : majAll = true := by decide +kernel
theorem majG_true (n f a : Nat) (h1 : n < 10) (h2 : f < 10) (h3 : a < 10) (h4 : 1 ≤ n) (h5 : f ≤ n) (h6 : a ≤ n - f) : majG (n : Int) (f : Int) (a : Int) = some true := by
  have h := majAll_true
  unfold majAll at h
  have h := List.all_eq_true.1 (List.all_eq_true.1 (List.all_eq_true.1 h n (by simpa using h1)) f (by simpa using h2)) a (by simpa using h3)
  simpa [h4, h5, h6] using h

end Go.TF
