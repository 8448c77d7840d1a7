/- From what the frame of a statement says of an argument to what the contracts ask of it (contracts FCall). -/
import Derived.Test.YtjmcidiplbkmpaaAbsV
set_option linter.unusedVariables false
set_option linter.unusedSimpArgs false
namespace Go.Abs
open Go.RowKit (Below)

theorem wf_inR {k : IntKind} {n : Int} (h : (Lit.int k n).wf = true) : InR k n := by
  simp only [Lit.wf, Bool.and_eq_true, decide_eq_true_eq] at h
  exact h

/-- All memory that there is. -/
abbrev allZ (w : World) : Cx := ⟨fun b => b < w.heap.size, fun _ => .unused, w.heap⟩

theorem cell_at {w : World} {x : Addr} {v : Value} (h : w.cell? x = some v) : x.spot = none ∧ x.block < w.heap.size ∧ cellAt w.heap x.block x.off = some v := by
  unfold World.cell? at h
  split at h
  · rename_i c T fr hb
    split at h
    · cases h
    · rename_i hs
      refine ⟨by simpa using hs, (Array.getElem?_eq_some_iff.1 hb).1, ?_⟩
      simp [cellAt, hb, h]
  · cases h

/-- A slice of integers that came in. -/
theorem row_rep {k : IntKind} {w : World} {a : Option Addr} {len cap : Nat} {zs : List Int}
    (h : (a = none ∧ len = 0 ∧ cap = 0 ∧ zs = []) ∨ ∃ x, a = some x ∧ len ≤ cap ∧ cap ≤ maxLen ∧ zs.length = cap ∧ (∀ i, i < zs.length → w.cell? (x.add i) = some (.int k (zs.getD i 0))) ∧ ∀ n ∈ zs, (Lit.int k n).wf = true) :
    Rep (allZ w) (.lst false false ((zs.take len).map (.int k))) (.slice a len cap) := by
  simp only [Rep]
  rcases h with ⟨rfl, rfl, rfl, rfl⟩ | ⟨x, rfl, h1, h2, h3, h4, h5⟩
  · exact .inl ⟨rfl, rfl⟩
  · right
    subst h3
    have hlen : ((zs.take len).map (Value.int k)).length = len := by simp; omega
    refine ⟨trivial, x, x.block, x.off, zs.length, 1, (zs.take len).map (.int k), by rw [hlen], by rw [hlen]; exact h1, h2, by simp, fun hc => ?_, fun i hi => ?_, ?_⟩
    · obtain ⟨h6, h7, _⟩ := cell_at (h4 0 hc)
      have e : x.add 0 = x := rfl
      rw [e] at h6 h7
      refine ⟨?_, h7⟩
      cases x; simp at h6; simp [h6]
    · rw [hlen] at hi
      have hi' : i < zs.length := by omega
      obtain ⟨h6, h7, h8⟩ := cell_at (h4 i hi')
      have eb : (x.add i).block = x.block := by unfold Addr.add; split <;> rfl
      have eo : (x.add i).off = x.off + i := by unfold Addr.add; split <;> simp_all
      have hd : zs.getD i 0 = zs[i] := by simp [List.getD_eq_getElem?_getD, hi']
      rw [eb, eo, hd] at h8
      refine ⟨by simp [Value.cells], ?_⟩
      intro j hj
      simp [Value.cells] at hj
      subst hj
      simp [Value.cells]
      exact h8
    · refine RepVals.of_get (by simp) fun i h6 h7 => ?_
      simp only [List.getElem_map, Rep]
      refine ⟨trivial, wf_inR (h5 _ (List.mem_of_mem_take (List.getElem_mem _)))⟩

theorem HRel.all (w : World) : HRel (allZ w) (fun i => ([] : List AObj)[i]?) w where
  heap := rfl
  obj := fun id b x y h => by cases h
  emp := fun id h => by cases h
  non := fun id _ _ => by simp
  inj := fun i j b x y x' y' h => by cases h
  sep := fun i b x y h => by cases h
  zlt := fun b h => h
  fin := ⟨0, fun i _ => rfl⟩

theorem Grow.below {w w' : World} {c' : Cx} (g : Grow (allZ w) w c' w') : Below w.heap.size w w' where
  os := g.os
  tape := g.tape
  output := g.output
  size := g.size
  block := fun b hb => g.keep b hb (fun id x y h => by cases h)

theorem FCall.use {P : Program} {f : FuncId} {args : List AV} {b : Bool} (h : FCall P f args [] (.bool b) []) (w : World) (vs : Array Value) (hr : RepVals (allZ w) args vs.toList) :
    Calls P f vs w fun e w' => e = .returned (.bool b) ∧ Below w.heap.size w w' :=
  (h.call (allZ w) w vs (HRel.all w) (fun i _ => rfl) hr).mono fun e w' ⟨v, c', H', h1, h2, h3, h4, h5⟩ => by
    simp only [Rep] at h4
    subst h4
    exact ⟨h1, h5.below⟩

end Go.Abs
