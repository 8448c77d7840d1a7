/-
  No cell of these rows narrows 'for every input' (looked for: loops, veiled, ifaces, maps, wideKeys, modest, calm, conditions, laid).
  DERIVED. THE GIVEN ROWS OF THIS SEAT. 6 by the template 'for every input the law returns true; each argument reads behind the call as it read before'; 0 by the template 'total and deterministic' (their statements: YtmiimcogppdepaaTotals.lean).
  GIVEN WITH THE SEED: the statements are not yours to turn. If you find one false, say at which input.
  Laid BY PROGRAM, IN A SANDBOX (cutbox-rows.mjs): the forced cells as the released guide's own fill.sh prints them over the translation f49c52340a12ad02… (all of the seat's roots in one cut). By AI agents, Wed Nov 11 2026. No macro, syntax, notation, axiom, sorry.
-/
import Derived.Test.YtmiimcogppdepaaChecked
import GoSem.Claim
import GoSem.ClaimJoined
import GoSem.ClaimMapViews
import Derived.JoinedTies
import Derived.KernelRfl
namespace Go.Proofs.Ytmiimcogppdepaa
/- THE CELL 'sum', in the pinned program and in every row, IS THE sha256 OF THE DUMP (.gsa) THAT YtmiimcogppdepaaProg.lean LOADS. Nothing in Lean hashes anything: it is a label: what it is worth is what the hold of that sum in a sandbox is worth. -/
noncomputable def Try.pinned : Pinned := { name := "ytmiimcogppdepaa", sum := "f49c52340a12ad02b7980465a01787d2d8643d0df8bb22feae412bb132f14876", checked := Try.checked }
namespace Rows
def none {H : Type} : Left H := { results := [], args := [] }

/-- 'trustflowlaw13.CapacityRaw': WHATEVER THE INPUT: true; the input reads as it did. -/
def capacityRawSpec : ChangeSpec := { name := "capacityRaw", fn := fun _ => fun
  | [d1, d2, d3] => { results := [.lit (.bool true)], args := [d1, d2, d3] }
  | _ => none }
def capacityRawRow : OpenClaim := { program := "ytmiimcogppdepaa", sum := "f49c52340a12ad02b7980465a01787d2d8643d0df8bb22feae412bb132f14876", func := "trustflow/trustflowlaw13.CapacityRaw", spec := "capacityRaw", unfollowed := true, recurses := true, apart := false }
def CapacityRawSaid : Prop := capacityRawRow.holds Try.pinned (OpenSpec.ofChange capacityRawSpec)

/-- ITS FALSE NEIGHBOUR: 'it returns false'. Refute it at one input. -/
def capacityRawWrong : ChangeSpec := { name := "capacityRaw", fn := fun _ => fun
  | [d1, d2, d3] => { results := [.lit (.bool false)], args := [d1, d2, d3] }
  | _ => none }
def CapacityRawWrongFalsely : Prop := capacityRawRow.holds Try.pinned (OpenSpec.ofChange capacityRawWrong)

/-- 'trustflowlaw13.CapacityMade': WHATEVER THE INPUT: true; the input reads as it did. -/
def capacityMadeSpec : ChangeSpec := { name := "capacityMade", fn := fun _ => fun
  | [d1, d2] => { results := [.lit (.bool true)], args := [d1, d2] }
  | _ => none }
def capacityMadeRow : OpenClaim := { program := "ytmiimcogppdepaa", sum := "f49c52340a12ad02b7980465a01787d2d8643d0df8bb22feae412bb132f14876", func := "trustflow/trustflowlaw13.CapacityMade", spec := "capacityMade", unfollowed := true, recurses := true, apart := false }
def CapacityMadeSaid : Prop := capacityMadeRow.holds Try.pinned (OpenSpec.ofChange capacityMadeSpec)

/-- ITS FALSE NEIGHBOUR: 'it returns false'. Refute it at one input. -/
def capacityMadeWrong : ChangeSpec := { name := "capacityMade", fn := fun _ => fun
  | [d1, d2] => { results := [.lit (.bool false)], args := [d1, d2] }
  | _ => none }
def CapacityMadeWrongFalsely : Prop := capacityMadeRow.holds Try.pinned (OpenSpec.ofChange capacityMadeWrong)

/-- 'trustflowlaw13.CapacityMore': WHATEVER THE INPUT: true; the input reads as it did. -/
def capacityMoreSpec : ChangeSpec := { name := "capacityMore", fn := fun _ => fun
  | [d] => { results := [.lit (.bool true)], args := [d] }
  | _ => none }
def capacityMoreRow : OpenClaim := { program := "ytmiimcogppdepaa", sum := "f49c52340a12ad02b7980465a01787d2d8643d0df8bb22feae412bb132f14876", func := "trustflow/trustflowlaw13.CapacityMore", spec := "capacityMore", unfollowed := true, recurses := true, apart := false }
def CapacityMoreSaid : Prop := capacityMoreRow.holds Try.pinned (OpenSpec.ofChange capacityMoreSpec)

/-- ITS FALSE NEIGHBOUR: 'it returns false'. Refute it at one input. -/
def capacityMoreWrong : ChangeSpec := { name := "capacityMore", fn := fun _ => fun
  | [d] => { results := [.lit (.bool false)], args := [d] }
  | _ => none }
def CapacityMoreWrongFalsely : Prop := capacityMoreRow.holds Try.pinned (OpenSpec.ofChange capacityMoreWrong)

/-- 'trustflowlaw13.CapacityBounds': WHATEVER THE INPUT: true; the input reads as it did. -/
def capacityBoundsSpec : ChangeSpec := { name := "capacityBounds", fn := fun _ => fun
  | [d] => { results := [.lit (.bool true)], args := [d] }
  | _ => none }
def capacityBoundsRow : OpenClaim := { program := "ytmiimcogppdepaa", sum := "f49c52340a12ad02b7980465a01787d2d8643d0df8bb22feae412bb132f14876", func := "trustflow/trustflowlaw13.CapacityBounds", spec := "capacityBounds", unfollowed := true, recurses := true, apart := false }
def CapacityBoundsSaid : Prop := capacityBoundsRow.holds Try.pinned (OpenSpec.ofChange capacityBoundsSpec)

/-- ITS FALSE NEIGHBOUR: 'it returns false'. Refute it at one input. -/
def capacityBoundsWrong : ChangeSpec := { name := "capacityBounds", fn := fun _ => fun
  | [d] => { results := [.lit (.bool false)], args := [d] }
  | _ => none }
def CapacityBoundsWrongFalsely : Prop := capacityBoundsRow.holds Try.pinned (OpenSpec.ofChange capacityBoundsWrong)

/-- 'trustflowlaw14.SplitNetworks': WHATEVER THE INPUT: true; the input reads as it did. -/
def splitNetworksSpec : ChangeSpec := { name := "splitNetworks", fn := fun _ => fun
  | [d1, d2, d3] => { results := [.lit (.bool true)], args := [d1, d2, d3] }
  | _ => none }
def splitNetworksRow : OpenClaim := { program := "ytmiimcogppdepaa", sum := "f49c52340a12ad02b7980465a01787d2d8643d0df8bb22feae412bb132f14876", func := "trustflow/trustflowlaw14.SplitNetworks", spec := "splitNetworks", unfollowed := true, recurses := true, apart := false }
def SplitNetworksSaid : Prop := splitNetworksRow.holds Try.pinned (OpenSpec.ofChange splitNetworksSpec)

/-- ITS FALSE NEIGHBOUR: 'it returns false'. Refute it at one input. -/
def splitNetworksWrong : ChangeSpec := { name := "splitNetworks", fn := fun _ => fun
  | [d1, d2, d3] => { results := [.lit (.bool false)], args := [d1, d2, d3] }
  | _ => none }
def SplitNetworksWrongFalsely : Prop := splitNetworksRow.holds Try.pinned (OpenSpec.ofChange splitNetworksWrong)

/-- 'trustflowlaw14.SplitShape': WHATEVER THE INPUT: true; the input reads as it did. -/
def splitShapeSpec : ChangeSpec := { name := "splitShape", fn := fun _ => fun
  | [d] => { results := [.lit (.bool true)], args := [d] }
  | _ => none }
def splitShapeRow : OpenClaim := { program := "ytmiimcogppdepaa", sum := "f49c52340a12ad02b7980465a01787d2d8643d0df8bb22feae412bb132f14876", func := "trustflow/trustflowlaw14.SplitShape", spec := "splitShape", unfollowed := true, recurses := true, apart := false }
def SplitShapeSaid : Prop := splitShapeRow.holds Try.pinned (OpenSpec.ofChange splitShapeSpec)

/-- ITS FALSE NEIGHBOUR: 'it returns false'. Refute it at one input. -/
def splitShapeWrong : ChangeSpec := { name := "splitShape", fn := fun _ => fun
  | [d] => { results := [.lit (.bool false)], args := [d] }
  | _ => none }
def SplitShapeWrongFalsely : Prop := splitShapeRow.holds Try.pinned (OpenSpec.ofChange splitShapeWrong)

/- THE SECOND FORM. 'bulk': how many values and letters a reading holds, each counted each time it is reached (what is shared counts as often as it is met; a slice's spare places count too). A statement '..UptoSaid' is the law's where the arguments, and the package variables that the reading takes, are together of bulk at most 1048576: NARROWER than '..Said'. Prove '..Said' where nothing that the law and all that it calls make is longer than what came in: it says more and counts as full. Else prove '..UptoSaid'. A law counts once. -/
mutual
def uptoBulk {H : Type} : DataW H → Nat
  | .lit (.string bytes) => bytes.length + 1
  | .lit _ => 1
  | .nil => 1
  | .ptr d => uptoBulk d + 1
  | .slice elems spare => uptoBulkAll elems + uptoBulkAll spare + 1
  | .agg parts => uptoBulkAll parts + 1
  | .iface _ d => uptoBulk d + 1
  | .map entries => uptoBulkEntries entries + 1
  | .held _ => 1
def uptoBulkAll {H : Type} : List (DataW H) → Nat
  | [] => 0
  | d :: r => uptoBulk d + uptoBulkAll r
def uptoBulkEntries {H : Type} : List (Lit × DataW H) → Nat
  | [] => 0
  | x :: r => uptoBulkEntry x + uptoBulkEntries r
def uptoBulkEntry {H : Type} : Lit × DataW H → Nat
  | (.string bytes, d) => bytes.length + uptoBulk d + 1
  | (_, d) => uptoBulk d + 1
 end
def uptoSmall : (H : Type) → List (DataW H) → Bool := fun _ ds => decide (uptoBulkAll ds ≤ 1048576)
def OpenSpec.upto (s : _root_.Go.ChangeSpec) : _root_.Go.OpenSpec := { _root_.Go.OpenSpec.ofChange s with cond := some uptoSmall }

/-- 'trustflowlaw13.CapacityRaw', WHERE WHAT IT READS IS OF BULK AT MOST 1048576: true; the input reads as it did. -/
def capacityRawUptoRow : OpenClaim := { program := "ytmiimcogppdepaa", sum := "f49c52340a12ad02b7980465a01787d2d8643d0df8bb22feae412bb132f14876", func := "trustflow/trustflowlaw13.CapacityRaw", spec := "capacityRaw", unfollowed := true, recurses := true, apart := false, narrowed := true }
def CapacityRawUptoSaid : Prop := capacityRawUptoRow.holds Try.pinned (OpenSpec.upto capacityRawSpec)

/-- 'trustflowlaw13.CapacityMade', WHERE WHAT IT READS IS OF BULK AT MOST 1048576: true; the input reads as it did. -/
def capacityMadeUptoRow : OpenClaim := { program := "ytmiimcogppdepaa", sum := "f49c52340a12ad02b7980465a01787d2d8643d0df8bb22feae412bb132f14876", func := "trustflow/trustflowlaw13.CapacityMade", spec := "capacityMade", unfollowed := true, recurses := true, apart := false, narrowed := true }
def CapacityMadeUptoSaid : Prop := capacityMadeUptoRow.holds Try.pinned (OpenSpec.upto capacityMadeSpec)

/-- 'trustflowlaw13.CapacityMore', WHERE WHAT IT READS IS OF BULK AT MOST 1048576: true; the input reads as it did. -/
def capacityMoreUptoRow : OpenClaim := { program := "ytmiimcogppdepaa", sum := "f49c52340a12ad02b7980465a01787d2d8643d0df8bb22feae412bb132f14876", func := "trustflow/trustflowlaw13.CapacityMore", spec := "capacityMore", unfollowed := true, recurses := true, apart := false, narrowed := true }
def CapacityMoreUptoSaid : Prop := capacityMoreUptoRow.holds Try.pinned (OpenSpec.upto capacityMoreSpec)

/-- 'trustflowlaw13.CapacityBounds', WHERE WHAT IT READS IS OF BULK AT MOST 1048576: true; the input reads as it did. -/
def capacityBoundsUptoRow : OpenClaim := { program := "ytmiimcogppdepaa", sum := "f49c52340a12ad02b7980465a01787d2d8643d0df8bb22feae412bb132f14876", func := "trustflow/trustflowlaw13.CapacityBounds", spec := "capacityBounds", unfollowed := true, recurses := true, apart := false, narrowed := true }
def CapacityBoundsUptoSaid : Prop := capacityBoundsUptoRow.holds Try.pinned (OpenSpec.upto capacityBoundsSpec)

/-- 'trustflowlaw14.SplitNetworks', WHERE WHAT IT READS IS OF BULK AT MOST 1048576: true; the input reads as it did. -/
def splitNetworksUptoRow : OpenClaim := { program := "ytmiimcogppdepaa", sum := "f49c52340a12ad02b7980465a01787d2d8643d0df8bb22feae412bb132f14876", func := "trustflow/trustflowlaw14.SplitNetworks", spec := "splitNetworks", unfollowed := true, recurses := true, apart := false, narrowed := true }
def SplitNetworksUptoSaid : Prop := splitNetworksUptoRow.holds Try.pinned (OpenSpec.upto splitNetworksSpec)

/-- 'trustflowlaw14.SplitShape', WHERE WHAT IT READS IS OF BULK AT MOST 1048576: true; the input reads as it did. -/
def splitShapeUptoRow : OpenClaim := { program := "ytmiimcogppdepaa", sum := "f49c52340a12ad02b7980465a01787d2d8643d0df8bb22feae412bb132f14876", func := "trustflow/trustflowlaw14.SplitShape", spec := "splitShape", unfollowed := true, recurses := true, apart := false, narrowed := true }
def SplitShapeUptoSaid : Prop := splitShapeUptoRow.holds Try.pinned (OpenSpec.upto splitShapeSpec)

end Rows
end Go.Proofs.Ytmiimcogppdepaa
