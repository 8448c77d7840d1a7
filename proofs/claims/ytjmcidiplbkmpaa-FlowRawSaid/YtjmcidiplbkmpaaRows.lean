/-
  No cell of these rows narrows 'for every input' (looked for: loops, veiled, ifaces, maps, wideKeys, modest, calm, conditions, laid).
  DERIVED. THE GIVEN ROWS OF THIS SEAT. 9 by the template 'for every input the law returns true; each argument reads behind the call as it read before'; 0 by the template 'total and deterministic' (their statements: YtjmcidiplbkmpaaTotals.lean).
  GIVEN WITH THE SEED: the statements are not yours to turn. If you find one false, say at which input.
  Laid BY PROGRAM, IN A SANDBOX (cutbox-rows.mjs): the forced cells as the released guide's own fill.sh prints them over the translation 11734a4e5bf5c978… (all of the seat's roots in one cut). By AI agents, Wed Nov 11 2026. No macro, syntax, notation, axiom, sorry.
-/
import Derived.Test.YtjmcidiplbkmpaaChecked
import GoSem.Claim
import GoSem.ClaimJoined
import GoSem.ClaimMapViews
import Derived.JoinedTies
import Derived.KernelRfl
namespace Go.Proofs.Ytjmcidiplbkmpaa
/- THE CELL 'sum', in the pinned program and in every row, IS THE sha256 OF THE DUMP (.gsa) THAT YtjmcidiplbkmpaaProg.lean LOADS. Nothing in Lean hashes anything: it is a label: what it is worth is what the hold of that sum in a sandbox is worth. -/
noncomputable def Try.pinned : Pinned := { name := "ytjmcidiplbkmpaa", sum := "11734a4e5bf5c9785275445dfe8a6e2001846f13b44f549d60aa5e218b4b8665", checked := Try.checked }
namespace Rows
def none {H : Type} : Left H := { results := [], args := [] }

/-- 'trustflowlaw15.FlowRaw': WHATEVER THE INPUT: true; the input reads as it did. -/
def flowRawSpec : ChangeSpec := { name := "flowRaw", fn := fun _ => fun
  | [d1, d2] => { results := [.lit (.bool true)], args := [d1, d2] }
  | _ => none }
def flowRawRow : OpenClaim := { program := "ytjmcidiplbkmpaa", sum := "11734a4e5bf5c9785275445dfe8a6e2001846f13b44f549d60aa5e218b4b8665", func := "trustflow/trustflowlaw15.FlowRaw", spec := "flowRaw", unfollowed := true, recurses := true, apart := false }
def FlowRawSaid : Prop := flowRawRow.holds Try.pinned (OpenSpec.ofChange flowRawSpec)

/-- ITS FALSE NEIGHBOUR: 'it returns false'. Refute it at one input. -/
def flowRawWrong : ChangeSpec := { name := "flowRaw", fn := fun _ => fun
  | [d1, d2] => { results := [.lit (.bool false)], args := [d1, d2] }
  | _ => none }
def FlowRawWrongFalsely : Prop := flowRawRow.holds Try.pinned (OpenSpec.ofChange flowRawWrong)

/-- 'trustflowlaw15.FlowMade': WHATEVER THE INPUT: true; the input reads as it did. -/
def flowMadeSpec : ChangeSpec := { name := "flowMade", fn := fun _ => fun
  | [d1, d2, d3] => { results := [.lit (.bool true)], args := [d1, d2, d3] }
  | _ => none }
def flowMadeRow : OpenClaim := { program := "ytjmcidiplbkmpaa", sum := "11734a4e5bf5c9785275445dfe8a6e2001846f13b44f549d60aa5e218b4b8665", func := "trustflow/trustflowlaw15.FlowMade", spec := "flowMade", unfollowed := true, recurses := true, apart := false }
def FlowMadeSaid : Prop := flowMadeRow.holds Try.pinned (OpenSpec.ofChange flowMadeSpec)

/-- ITS FALSE NEIGHBOUR: 'it returns false'. Refute it at one input. -/
def flowMadeWrong : ChangeSpec := { name := "flowMade", fn := fun _ => fun
  | [d1, d2, d3] => { results := [.lit (.bool false)], args := [d1, d2, d3] }
  | _ => none }
def FlowMadeWrongFalsely : Prop := flowMadeRow.holds Try.pinned (OpenSpec.ofChange flowMadeWrong)

/-- 'trustflowlaw15.FlowLeast': WHATEVER THE INPUT: true; the input reads as it did. -/
def flowLeastSpec : ChangeSpec := { name := "flowLeast", fn := fun _ => fun
  | [d] => { results := [.lit (.bool true)], args := [d] }
  | _ => none }
def flowLeastRow : OpenClaim := { program := "ytjmcidiplbkmpaa", sum := "11734a4e5bf5c9785275445dfe8a6e2001846f13b44f549d60aa5e218b4b8665", func := "trustflow/trustflowlaw15.FlowLeast", spec := "flowLeast", unfollowed := true, recurses := true, apart := false }
def FlowLeastSaid : Prop := flowLeastRow.holds Try.pinned (OpenSpec.ofChange flowLeastSpec)

/-- ITS FALSE NEIGHBOUR: 'it returns false'. Refute it at one input. -/
def flowLeastWrong : ChangeSpec := { name := "flowLeast", fn := fun _ => fun
  | [d] => { results := [.lit (.bool false)], args := [d] }
  | _ => none }
def FlowLeastWrongFalsely : Prop := flowLeastRow.holds Try.pinned (OpenSpec.ofChange flowLeastWrong)

/-- 'trustflowlaw15.FlowMore': WHATEVER THE INPUT: true; the input reads as it did. -/
def flowMoreSpec : ChangeSpec := { name := "flowMore", fn := fun _ => fun
  | [d1, d2] => { results := [.lit (.bool true)], args := [d1, d2] }
  | _ => none }
def flowMoreRow : OpenClaim := { program := "ytjmcidiplbkmpaa", sum := "11734a4e5bf5c9785275445dfe8a6e2001846f13b44f549d60aa5e218b4b8665", func := "trustflow/trustflowlaw15.FlowMore", spec := "flowMore", unfollowed := true, recurses := true, apart := false }
def FlowMoreSaid : Prop := flowMoreRow.holds Try.pinned (OpenSpec.ofChange flowMoreSpec)

/-- ITS FALSE NEIGHBOUR: 'it returns false'. Refute it at one input. -/
def flowMoreWrong : ChangeSpec := { name := "flowMore", fn := fun _ => fun
  | [d1, d2] => { results := [.lit (.bool false)], args := [d1, d2] }
  | _ => none }
def FlowMoreWrongFalsely : Prop := flowMoreRow.holds Try.pinned (OpenSpec.ofChange flowMoreWrong)

/-- 'trustflowlaw15.FlowTurned': WHATEVER THE INPUT: true; the input reads as it did. -/
def flowTurnedSpec : ChangeSpec := { name := "flowTurned", fn := fun _ => fun
  | [d] => { results := [.lit (.bool true)], args := [d] }
  | _ => none }
def flowTurnedRow : OpenClaim := { program := "ytjmcidiplbkmpaa", sum := "11734a4e5bf5c9785275445dfe8a6e2001846f13b44f549d60aa5e218b4b8665", func := "trustflow/trustflowlaw15.FlowTurned", spec := "flowTurned", unfollowed := true, recurses := true, apart := false }
def FlowTurnedSaid : Prop := flowTurnedRow.holds Try.pinned (OpenSpec.ofChange flowTurnedSpec)

/-- ITS FALSE NEIGHBOUR: 'it returns false'. Refute it at one input. -/
def flowTurnedWrong : ChangeSpec := { name := "flowTurned", fn := fun _ => fun
  | [d] => { results := [.lit (.bool false)], args := [d] }
  | _ => none }
def FlowTurnedWrongFalsely : Prop := flowTurnedRow.holds Try.pinned (OpenSpec.ofChange flowTurnedWrong)

/-- 'trustflowlaw16.CutRaw': WHATEVER THE INPUT: true; the input reads as it did. -/
def cutRawSpec : ChangeSpec := { name := "cutRaw", fn := fun _ => fun
  | [d1, d2, d3] => { results := [.lit (.bool true)], args := [d1, d2, d3] }
  | _ => none }
def cutRawRow : OpenClaim := { program := "ytjmcidiplbkmpaa", sum := "11734a4e5bf5c9785275445dfe8a6e2001846f13b44f549d60aa5e218b4b8665", func := "trustflow/trustflowlaw16.CutRaw", spec := "cutRaw", unfollowed := true, recurses := true, apart := false }
def CutRawSaid : Prop := cutRawRow.holds Try.pinned (OpenSpec.ofChange cutRawSpec)

/-- ITS FALSE NEIGHBOUR: 'it returns false'. Refute it at one input. -/
def cutRawWrong : ChangeSpec := { name := "cutRaw", fn := fun _ => fun
  | [d1, d2, d3] => { results := [.lit (.bool false)], args := [d1, d2, d3] }
  | _ => none }
def CutRawWrongFalsely : Prop := cutRawRow.holds Try.pinned (OpenSpec.ofChange cutRawWrong)

/-- 'trustflowlaw16.CutMade': WHATEVER THE INPUT: true; the input reads as it did. -/
def cutMadeSpec : ChangeSpec := { name := "cutMade", fn := fun _ => fun
  | [d] => { results := [.lit (.bool true)], args := [d] }
  | _ => none }
def cutMadeRow : OpenClaim := { program := "ytjmcidiplbkmpaa", sum := "11734a4e5bf5c9785275445dfe8a6e2001846f13b44f549d60aa5e218b4b8665", func := "trustflow/trustflowlaw16.CutMade", spec := "cutMade", unfollowed := true, recurses := true, apart := false }
def CutMadeSaid : Prop := cutMadeRow.holds Try.pinned (OpenSpec.ofChange cutMadeSpec)

/-- ITS FALSE NEIGHBOUR: 'it returns false'. Refute it at one input. -/
def cutMadeWrong : ChangeSpec := { name := "cutMade", fn := fun _ => fun
  | [d] => { results := [.lit (.bool false)], args := [d] }
  | _ => none }
def CutMadeWrongFalsely : Prop := cutMadeRow.holds Try.pinned (OpenSpec.ofChange cutMadeWrong)

/-- 'trustflowlaw16.CutNearest': WHATEVER THE INPUT: true; the input reads as it did. -/
def cutNearestSpec : ChangeSpec := { name := "cutNearest", fn := fun _ => fun
  | [d] => { results := [.lit (.bool true)], args := [d] }
  | _ => none }
def cutNearestRow : OpenClaim := { program := "ytjmcidiplbkmpaa", sum := "11734a4e5bf5c9785275445dfe8a6e2001846f13b44f549d60aa5e218b4b8665", func := "trustflow/trustflowlaw16.CutNearest", spec := "cutNearest", unfollowed := true, recurses := true, apart := false }
def CutNearestSaid : Prop := cutNearestRow.holds Try.pinned (OpenSpec.ofChange cutNearestSpec)

/-- ITS FALSE NEIGHBOUR: 'it returns false'. Refute it at one input. -/
def cutNearestWrong : ChangeSpec := { name := "cutNearest", fn := fun _ => fun
  | [d] => { results := [.lit (.bool false)], args := [d] }
  | _ => none }
def CutNearestWrongFalsely : Prop := cutNearestRow.holds Try.pinned (OpenSpec.ofChange cutNearestWrong)

/-- 'trustflowlaw16.CutSides': WHATEVER THE INPUT: true; the input reads as it did. -/
def cutSidesSpec : ChangeSpec := { name := "cutSides", fn := fun _ => fun
  | [d] => { results := [.lit (.bool true)], args := [d] }
  | _ => none }
def cutSidesRow : OpenClaim := { program := "ytjmcidiplbkmpaa", sum := "11734a4e5bf5c9785275445dfe8a6e2001846f13b44f549d60aa5e218b4b8665", func := "trustflow/trustflowlaw16.CutSides", spec := "cutSides", unfollowed := true, recurses := true, apart := false }
def CutSidesSaid : Prop := cutSidesRow.holds Try.pinned (OpenSpec.ofChange cutSidesSpec)

/-- ITS FALSE NEIGHBOUR: 'it returns false'. Refute it at one input. -/
def cutSidesWrong : ChangeSpec := { name := "cutSides", fn := fun _ => fun
  | [d] => { results := [.lit (.bool false)], args := [d] }
  | _ => none }
def CutSidesWrongFalsely : Prop := cutSidesRow.holds Try.pinned (OpenSpec.ofChange cutSidesWrong)

/- THE SECOND FORM. 'bulk': how many values and letters a reading holds, each counted each time it is reached (what is shared counts as often as it is met; a slice's spare places count too). A statement '..UptoSaid' is the law's where the arguments, and the package variables that the reading takes, are together of bulk at most 1048576: NARROWER than '..Said'. Prove '..Said' where nothing that the law and all that it calls make is longer than what came in: it says more and counts as full. Else prove '..UptoSaid'. A law counts once. -/
mutual
def uptoBulk {H : Type} : DataW H → Nat
  | .lit (.string bytes) => bytes.length + 1
  | .lit _ => 1
  | .nil => 1
  | .ptr d => uptoBulk d + 1
  | .slice elems spare => uptoBulkAll elems + uptoBulkAll spare + 1
  | .agg parts => uptoBulkAll parts + 1
  | .iface _ d => uptoBulk d + 1
  | .map entries => uptoBulkEntries entries + 1
  | .held _ => 1
def uptoBulkAll {H : Type} : List (DataW H) → Nat
  | [] => 0
  | d :: r => uptoBulk d + uptoBulkAll r
def uptoBulkEntries {H : Type} : List (Lit × DataW H) → Nat
  | [] => 0
  | x :: r => uptoBulkEntry x + uptoBulkEntries r
def uptoBulkEntry {H : Type} : Lit × DataW H → Nat
  | (.string bytes, d) => bytes.length + uptoBulk d + 1
  | (_, d) => uptoBulk d + 1
 end
def uptoSmall : (H : Type) → List (DataW H) → Bool := fun _ ds => decide (uptoBulkAll ds ≤ 1048576)
def OpenSpec.upto (s : _root_.Go.ChangeSpec) : _root_.Go.OpenSpec := { _root_.Go.OpenSpec.ofChange s with cond := some uptoSmall }

/-- 'trustflowlaw15.FlowRaw', WHERE WHAT IT READS IS OF BULK AT MOST 1048576: true; the input reads as it did. -/
def flowRawUptoRow : OpenClaim := { program := "ytjmcidiplbkmpaa", sum := "11734a4e5bf5c9785275445dfe8a6e2001846f13b44f549d60aa5e218b4b8665", func := "trustflow/trustflowlaw15.FlowRaw", spec := "flowRaw", unfollowed := true, recurses := true, apart := false, narrowed := true }
def FlowRawUptoSaid : Prop := flowRawUptoRow.holds Try.pinned (OpenSpec.upto flowRawSpec)

/-- 'trustflowlaw15.FlowMade', WHERE WHAT IT READS IS OF BULK AT MOST 1048576: true; the input reads as it did. -/
def flowMadeUptoRow : OpenClaim := { program := "ytjmcidiplbkmpaa", sum := "11734a4e5bf5c9785275445dfe8a6e2001846f13b44f549d60aa5e218b4b8665", func := "trustflow/trustflowlaw15.FlowMade", spec := "flowMade", unfollowed := true, recurses := true, apart := false, narrowed := true }
def FlowMadeUptoSaid : Prop := flowMadeUptoRow.holds Try.pinned (OpenSpec.upto flowMadeSpec)

/-- 'trustflowlaw15.FlowLeast', WHERE WHAT IT READS IS OF BULK AT MOST 1048576: true; the input reads as it did. -/
def flowLeastUptoRow : OpenClaim := { program := "ytjmcidiplbkmpaa", sum := "11734a4e5bf5c9785275445dfe8a6e2001846f13b44f549d60aa5e218b4b8665", func := "trustflow/trustflowlaw15.FlowLeast", spec := "flowLeast", unfollowed := true, recurses := true, apart := false, narrowed := true }
def FlowLeastUptoSaid : Prop := flowLeastUptoRow.holds Try.pinned (OpenSpec.upto flowLeastSpec)

/-- 'trustflowlaw15.FlowMore', WHERE WHAT IT READS IS OF BULK AT MOST 1048576: true; the input reads as it did. -/
def flowMoreUptoRow : OpenClaim := { program := "ytjmcidiplbkmpaa", sum := "11734a4e5bf5c9785275445dfe8a6e2001846f13b44f549d60aa5e218b4b8665", func := "trustflow/trustflowlaw15.FlowMore", spec := "flowMore", unfollowed := true, recurses := true, apart := false, narrowed := true }
def FlowMoreUptoSaid : Prop := flowMoreUptoRow.holds Try.pinned (OpenSpec.upto flowMoreSpec)

/-- 'trustflowlaw15.FlowTurned', WHERE WHAT IT READS IS OF BULK AT MOST 1048576: true; the input reads as it did. -/
def flowTurnedUptoRow : OpenClaim := { program := "ytjmcidiplbkmpaa", sum := "11734a4e5bf5c9785275445dfe8a6e2001846f13b44f549d60aa5e218b4b8665", func := "trustflow/trustflowlaw15.FlowTurned", spec := "flowTurned", unfollowed := true, recurses := true, apart := false, narrowed := true }
def FlowTurnedUptoSaid : Prop := flowTurnedUptoRow.holds Try.pinned (OpenSpec.upto flowTurnedSpec)

/-- 'trustflowlaw16.CutRaw', WHERE WHAT IT READS IS OF BULK AT MOST 1048576: true; the input reads as it did. -/
def cutRawUptoRow : OpenClaim := { program := "ytjmcidiplbkmpaa", sum := "11734a4e5bf5c9785275445dfe8a6e2001846f13b44f549d60aa5e218b4b8665", func := "trustflow/trustflowlaw16.CutRaw", spec := "cutRaw", unfollowed := true, recurses := true, apart := false, narrowed := true }
def CutRawUptoSaid : Prop := cutRawUptoRow.holds Try.pinned (OpenSpec.upto cutRawSpec)

/-- 'trustflowlaw16.CutMade', WHERE WHAT IT READS IS OF BULK AT MOST 1048576: true; the input reads as it did. -/
def cutMadeUptoRow : OpenClaim := { program := "ytjmcidiplbkmpaa", sum := "11734a4e5bf5c9785275445dfe8a6e2001846f13b44f549d60aa5e218b4b8665", func := "trustflow/trustflowlaw16.CutMade", spec := "cutMade", unfollowed := true, recurses := true, apart := false, narrowed := true }
def CutMadeUptoSaid : Prop := cutMadeUptoRow.holds Try.pinned (OpenSpec.upto cutMadeSpec)

/-- 'trustflowlaw16.CutNearest', WHERE WHAT IT READS IS OF BULK AT MOST 1048576: true; the input reads as it did. -/
def cutNearestUptoRow : OpenClaim := { program := "ytjmcidiplbkmpaa", sum := "11734a4e5bf5c9785275445dfe8a6e2001846f13b44f549d60aa5e218b4b8665", func := "trustflow/trustflowlaw16.CutNearest", spec := "cutNearest", unfollowed := true, recurses := true, apart := false, narrowed := true }
def CutNearestUptoSaid : Prop := cutNearestUptoRow.holds Try.pinned (OpenSpec.upto cutNearestSpec)

/-- 'trustflowlaw16.CutSides', WHERE WHAT IT READS IS OF BULK AT MOST 1048576: true; the input reads as it did. -/
def cutSidesUptoRow : OpenClaim := { program := "ytjmcidiplbkmpaa", sum := "11734a4e5bf5c9785275445dfe8a6e2001846f13b44f549d60aa5e218b4b8665", func := "trustflow/trustflowlaw16.CutSides", spec := "cutSides", unfollowed := true, recurses := true, apart := false, narrowed := true }
def CutSidesUptoSaid : Prop := cutSidesUptoRow.holds Try.pinned (OpenSpec.upto cutSidesSpec)

end Rows
end Go.Proofs.Ytjmcidiplbkmpaa
