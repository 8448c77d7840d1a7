/- What every value that can be read keeps to: numbers within their kind, strings and lists not too long. -/
import Derived.Test.YtjmcidiplbkmpaaAbsV
set_option linter.unusedVariables false
set_option linter.unusedSimpArgs false
namespace Go.Abs

mutual
/-- Numbers fit their kinds, strings and lists are not too long. -/
def Fit : AV → Prop
  | .int k n => InR k n
  | .str s => s.size ≤ maxLen
  | .lst _ _ xs => xs.length ≤ maxLen ∧ FitL xs
  | .agg xs => FitL xs
  | _ => True
def FitL : List AV → Prop
  | [] => True
  | x :: xs => Fit x ∧ FitL xs
end

mutual
theorem Rep.fit {c : Cx} : ∀ {x : AV} {v : Value}, Rep c x v → Fit x
  | .int k n, v, h => by simp only [Rep] at h; exact h.2
  | .str s, v, h => by simp only [Rep] at h; exact h.2
  | .lst nl fl xs, v, h => by
    simp only [Rep] at h
    rcases h with ⟨rfl, _⟩ | ⟨_, a, b, off, cap, es, vs, _, h1, h2, _, _, _, h3⟩
    · exact ⟨Nat.zero_le _, trivial⟩
    · exact ⟨by have := h3.length; omega, RepVals.fit h3⟩
  | .agg xs, v, h => by
    simp only [Rep] at h
    obtain ⟨vs, _, h1⟩ := h
    exact RepVals.fit (xs := xs) h1
  | .undef, _, _ | .skip, _, _ | .bool _, _, _ | .cptr _, _, _ | .ptr _ _, _, _ | .nilptr, _, _ | .slc _ _ _ _ _, _, _ | .tup _, _, _ | .fn _ _, _, _ | .nilfn, _, _ | .map _, _, _ | .nilmap, _, _ | .ifc _ _, _, _ | .nilifc, _, _ | .nn _, _, _ => by simp [Fit]
theorem RepVals.fit {c : Cx} : ∀ {xs : List AV} {vs : List Value}, RepVals c xs vs → FitL xs
  | [], _, _ => trivial
  | x :: xs, vs, h => by
    simp only [RepVals] at h
    obtain ⟨v, rest, _, h1, h2⟩ := h
    exact ⟨h1.fit, RepVals.fit h2⟩
end

theorem fitL_map {α : Type} {f : α → AV} : ∀ {l : List α}, FitL (l.map f) ↔ ∀ x ∈ l, Fit (f x)
  | [] => by simp [FitL]
  | a :: l => by simp [FitL, fitL_map (l := l)]

theorem Fit.ints {k : IntKind} {nl fl : Bool} {l : List Int} (h : Fit (.lst nl fl (l.map (AV.int k)))) : l.length ≤ maxLen ∧ ∀ x ∈ l, InR k x := by
  simp only [Fit, List.length_map] at h
  exact ⟨h.1, fun x hx => by have := fitL_map.1 h.2 x hx; simpa [Fit] using this⟩
theorem InR.i64 {n : Int} (h : InR .i64 n) : -9223372036854775808 ≤ n ∧ n ≤ 9223372036854775807 := by
  simpa [InR, IntKind.min, IntKind.max, IntKind.bits, IntKind.signed] using h
theorem InR.u8 {n : Int} (h : InR .u8 n) : 0 ≤ n ∧ n ≤ 255 := by
  simpa [InR, IntKind.min, IntKind.max, IntKind.bits, IntKind.signed] using h
end Go.Abs
