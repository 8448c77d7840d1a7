/- Plain laws of layer 26: what a majority bears. -/
import Derived.Test.YtocmgnljgemjkaaPl
set_option linter.unusedVariables false
set_option linter.unusedSimpArgs false
namespace Go.TF
open Go Go.Abs

theorem awake26 : law26_awake 1000 = some true := by decide +kernel

theorem tmod_range (a b : Int) (h : 0 ≤ a) (hb : 0 < b) : 0 ≤ Int.tmod a b ∧ Int.tmod a b < b := by
  rw [Int.tmod_eq_emod_of_nonneg h]
  exact ⟨Int.emod_nonneg _ (by omega), Int.emod_lt_of_pos _ hb⟩

def majG (n f a : Int) : Option Bool :=
  let m := IntKind.wrap .i64
  let J := fun b : Bool => if (!b) = true then
      bnd1 (committee_Enough 1000 n n) fun v5 => if v5 = true then bnd1 (committee_Enough 1000 0 n) fun v6 => if (!v6) = true then bnd1 (committee_Enough 1000 (m (Int.tdiv n 2)) n) fun v7 => if (!v7) = true then bnd1 (law26_awake 1000) fun v8 => some v8 else some false else some false else some false
    else if n < m (2 * f) then
      bnd1 (committee_Enough 1000 n n) fun v5 => if v5 = true then bnd1 (committee_Enough 1000 0 n) fun v6 => if (!v6) = true then bnd1 (committee_Enough 1000 (m (Int.tdiv n 2)) n) fun v7 => if (!v7) = true then bnd1 (law26_awake 1000) fun v8 => some v8 else some false else some false else some false
    else some false
  bnd1 (committee_Enough 1000 (m (a + f)) n) fun v13 => if v13 = true then bnd1 (committee_Enough 1000 (m (m (m (n - f) - a) + f)) n) fun v14 => J v14 else J false

def majAll : Bool := (List.range 10).all fun n => (List.range 10).all fun f => (List.range 10).all fun a => !(decide (1 ≤ n) && decide (f ≤ n) && decide (a ≤ n - f)) || decide (majG (n : Int) (f : Int) (a : Int) = some true)
theorem majAll_true : majAll = true := by decide +kernel
theorem majG_true (n f a : Nat) (h1 : n < 10) (h2 : f < 10) (h3 : a < 10) (h4 : 1 ≤ n) (h5 : f ≤ n) (h6 : a ≤ n - f) : majG (n : Int) (f : Int) (a : Int) = some true := by
  have h := majAll_true
  unfold majAll at h
  have h := List.all_eq_true.1 (List.all_eq_true.1 (List.all_eq_true.1 h n (by simpa using h1)) f (by simpa using h2)) a (by simpa using h3)
  simpa [h4, h5, h6] using h

theorem CommitteeMajority_true (v0 v1 v2 : Int) (h0 : Fit (.int .u8 v0)) (h1 : Fit (.int .u8 v1)) (h2 : Fit (.int .u8 v2)) : law26_CommitteeMajority 1000 v0 v1 v2 = some true := by
  have h0 := InR.u8 h0
  have h1 := InR.u8 h1
  have h2 := InR.u8 h2
  unfold law26_CommitteeMajority law26_CommitteeMajority.J1
  rw [w64 (n := v0) (by omega) (by omega), w64 (n := v1) (by omega) (by omega), w64 (n := v2) (by omega) (by omega)]
  have hx := tmod_range v0 9 (by omega) (by omega)
  have hn : 1 ≤ IntKind.wrap .i64 (1 + Int.tmod v0 9) ∧ IntKind.wrap .i64 (1 + Int.tmod v0 9) ≤ 9 := by rw [w64 (by omega) (by omega)]; omega
  generalize IntKind.wrap .i64 (1 + Int.tmod v0 9) = n at *
  have e1 : IntKind.wrap .i64 (n + 1) = n + 1 := w64 (by omega) (by omega)
  rw [e1]
  have hf := tmod_range v1 (n + 1) (by omega) (by omega)
  generalize Int.tmod v1 (n + 1) = f at *
  have e2 : IntKind.wrap .i64 (IntKind.wrap .i64 (n - f) + 1) = n - f + 1 := by rw [w64 (n := n - f) (by omega) (by omega), w64 (by omega) (by omega)]
  rw [e2]
  have ha := tmod_range v2 (n - f + 1) (by omega) (by omega)
  generalize Int.tmod v2 (n - f + 1) = a at *
  rw [chk_pos (by omega), chk_pos (by omega)]
  obtain ⟨n, rfl⟩ := Int.eq_ofNat_of_zero_le (show 0 ≤ n by omega)
  obtain ⟨f, rfl⟩ := Int.eq_ofNat_of_zero_le (show 0 ≤ f by omega)
  obtain ⟨a, rfl⟩ := Int.eq_ofNat_of_zero_le (show 0 ≤ a by omega)
  exact majG_true n f a (by omega) (by omega) (by omega) (by omega) (by omega) (by omega)
end Go.TF
