/- More of what simp should know. -/
import Derived.Test.YtepdfenlkeaefaaAbsV
set_option linter.unusedVariables false
set_option linter.unusedSimpArgs false
namespace Go.Abs
open Go.RowKit (Below)

theorem allU8_set {l : List AV} {i : Nat} {x : Int} (h : allU8 l = true) : allU8 (l.set i (.int .u8 x)) = true := by
  rw [allU8_iff] at h ⊢
  intro y hy
  rcases List.mem_or_eq_of_mem_set hy with h1 | h1
  · exact h y h1
  · exact ⟨x, h1⟩
def setB (b : ByteArray) (i : Nat) (x : Int) : ByteArray := ⟨(b.data.toList.set i (UInt8.ofNat x.toNat)).toArray⟩
theorem sOf_set (l : List AV) (i : Nat) (x : Int) : sOf (l.set i (.int .u8 x)) = setB (sOf l) i x := by simp [sOf, setB, toU8, List.map_set]
theorem ofI_set (l : List Int) (i : Nat) (x : Int) : ofI (l.set i x) = setB (ofI l) i x := by simp [ofI, setB, List.map_set]
theorem gdL_flat {α : Type} {F : α → AV} {S : Nat → Prop} (h : ∀ x, gdL S (F x).cells) (l : List α) : gdL S (flatA (l.map F)) := by
  refine (gdL_iff _ _).2 fun y hy => ?_
  simp only [flatA, List.mem_flatMap, List.mem_map] at hy
  obtain ⟨z, ⟨x, _, rfl⟩, hz⟩ := hy
  exact (gdL_iff _ _).1 (h x) y hz
theorem renL_flat {α : Type} {F : α → AV} {σ : Nat → Nat} (h : ∀ x, renL σ (F x).cells = (F x).cells) (l : List α) : renL σ (flatA (l.map F)) = flatA (l.map F) := by
  induction l with
  | nil => rfl
  | cons x l ih =>
    rw [List.map_cons, flatA_cons, renL_eq, List.map_append, ← renL_eq, ← renL_eq, h, ih]

theorem freshL_flat {α : Type} {F : α → AV} (h : ∀ x, freshL (F x).cells = true) (l : List α) : freshL (flatA (l.map F)) = true := by
  rw [freshL_iff, List.all_eq_true]
  intro y hy
  simp only [flatA, List.mem_flatMap, List.mem_map] at hy
  obtain ⟨z, ⟨x, _, rfl⟩, hz⟩ := hy
  have := h x
  rw [freshL_iff, List.all_eq_true] at this
  exact this y hz

theorem bI_at {b : ByteArray} {n : Nat} {v : Int} (h : (bI b)[n]? = some v) : (((b.data.toList.getD n 0).toNat : Nat) : Int) = v := by
  unfold bI at h
  rw [List.getElem?_map] at h
  rw [List.getD_eq_getElem?_getD]
  cases hh : b.data.toList[n]? with
  | none => rw [hh] at h; cases h
  | some x => rw [hh] at h; simpa using h

end Go.Abs
