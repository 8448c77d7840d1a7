/-
  No cell of these rows narrows 'for every input' (looked for: loops, veiled, ifaces, maps, wideKeys, modest, calm, conditions, laid).
  DERIVED. THE GIVEN ROWS OF THIS SEAT. 9 by the template 'for every input the law returns true; each argument reads behind the call as it read before'; 0 by the template 'total and deterministic' (their statements: YtepdfenlkeaefaaTotals.lean).
  GIVEN WITH THE SEED: the statements are not yours to turn. If you find one false, say at which input.
  Laid BY PROGRAM, IN A SANDBOX (cutbox-rows.mjs): the forced cells as the released guide's own fill.sh prints them over the translation 1be07474c06444de… (all of the seat's roots in one cut). By AI agents, Wed Nov 11 2026. No macro, syntax, notation, axiom, sorry.
-/
import Derived.Test.YtepdfenlkeaefaaChecked
import GoSem.Claim
import GoSem.ClaimJoined
import GoSem.ClaimMapViews
import Derived.JoinedTies
import Derived.KernelRfl
namespace Go.Proofs.Ytepdfenlkeaefaa
/- THE CELL 'sum', in the pinned program and in every row, IS THE sha256 OF THE DUMP (.gsa) THAT YtepdfenlkeaefaaProg.lean LOADS. Nothing in Lean hashes anything: it is a label: what it is worth is what the hold of that sum in a sandbox is worth. -/
noncomputable def Try.pinned : Pinned := { name := "ytepdfenlkeaefaa", sum := "1be07474c06444ded7ca9b32763a43c0eff950df76a95a4953275eb60e0ef439", checked := Try.checked }
namespace Rows
def none {H : Type} : Left H := { results := [], args := [] }

/-- 'trustflowlaw01.DigestLong': WHATEVER THE INPUT: true; the input reads as it did. -/
def digestLongSpec : ChangeSpec := { name := "digestLong", fn := fun _ => fun
  | [d1, d2] => { results := [.lit (.bool true)], args := [d1, d2] }
  | _ => none }
def digestLongRow : OpenClaim := { program := "ytepdfenlkeaefaa", sum := "1be07474c06444ded7ca9b32763a43c0eff950df76a95a4953275eb60e0ef439", func := "trustflow/trustflowlaw01.DigestLong", spec := "digestLong", unfollowed := true, recurses := true, apart := false }
def DigestLongSaid : Prop := digestLongRow.holds Try.pinned (OpenSpec.ofChange digestLongSpec)

/-- ITS FALSE NEIGHBOUR: 'it returns false'. Refute it at one input. -/
def digestLongWrong : ChangeSpec := { name := "digestLong", fn := fun _ => fun
  | [d1, d2] => { results := [.lit (.bool false)], args := [d1, d2] }
  | _ => none }
def DigestLongWrongFalsely : Prop := digestLongRow.holds Try.pinned (OpenSpec.ofChange digestLongWrong)

/-- 'trustflowlaw24.RosterGenesis': WHATEVER THE INPUT: true; the input reads as it did. -/
def rosterGenesisSpec : ChangeSpec := { name := "rosterGenesis", fn := fun _ => fun
  | [d1, d2] => { results := [.lit (.bool true)], args := [d1, d2] }
  | _ => none }
def rosterGenesisRow : OpenClaim := { program := "ytepdfenlkeaefaa", sum := "1be07474c06444ded7ca9b32763a43c0eff950df76a95a4953275eb60e0ef439", func := "trustflow/trustflowlaw24.RosterGenesis", spec := "rosterGenesis", unfollowed := true, recurses := true, apart := false }
def RosterGenesisSaid : Prop := rosterGenesisRow.holds Try.pinned (OpenSpec.ofChange rosterGenesisSpec)

/-- ITS FALSE NEIGHBOUR: 'it returns false'. Refute it at one input. -/
def rosterGenesisWrong : ChangeSpec := { name := "rosterGenesis", fn := fun _ => fun
  | [d1, d2] => { results := [.lit (.bool false)], args := [d1, d2] }
  | _ => none }
def RosterGenesisWrongFalsely : Prop := rosterGenesisRow.holds Try.pinned (OpenSpec.ofChange rosterGenesisWrong)

/-- 'trustflowlaw34.GuardianAll': WHATEVER THE INPUT: true; the input reads as it did. -/
def guardianAllSpec : ChangeSpec := { name := "guardianAll", fn := fun _ => fun
  | [d1, d2] => { results := [.lit (.bool true)], args := [d1, d2] }
  | _ => none }
def guardianAllRow : OpenClaim := { program := "ytepdfenlkeaefaa", sum := "1be07474c06444ded7ca9b32763a43c0eff950df76a95a4953275eb60e0ef439", func := "trustflow/trustflowlaw34.GuardianAll", spec := "guardianAll", unfollowed := true, recurses := true, apart := false }
def GuardianAllSaid : Prop := guardianAllRow.holds Try.pinned (OpenSpec.ofChange guardianAllSpec)

/-- ITS FALSE NEIGHBOUR: 'it returns false'. Refute it at one input. -/
def guardianAllWrong : ChangeSpec := { name := "guardianAll", fn := fun _ => fun
  | [d1, d2] => { results := [.lit (.bool false)], args := [d1, d2] }
  | _ => none }
def GuardianAllWrongFalsely : Prop := guardianAllRow.holds Try.pinned (OpenSpec.ofChange guardianAllWrong)

/-- 'trustflowlaw34.GuardianLast': WHATEVER THE INPUT: true; the input reads as it did. -/
def guardianLastSpec : ChangeSpec := { name := "guardianLast", fn := fun _ => fun
  | [d] => { results := [.lit (.bool true)], args := [d] }
  | _ => none }
def guardianLastRow : OpenClaim := { program := "ytepdfenlkeaefaa", sum := "1be07474c06444ded7ca9b32763a43c0eff950df76a95a4953275eb60e0ef439", func := "trustflow/trustflowlaw34.GuardianLast", spec := "guardianLast", unfollowed := true, recurses := true, apart := false }
def GuardianLastSaid : Prop := guardianLastRow.holds Try.pinned (OpenSpec.ofChange guardianLastSpec)

/-- ITS FALSE NEIGHBOUR: 'it returns false'. Refute it at one input. -/
def guardianLastWrong : ChangeSpec := { name := "guardianLast", fn := fun _ => fun
  | [d] => { results := [.lit (.bool false)], args := [d] }
  | _ => none }
def GuardianLastWrongFalsely : Prop := guardianLastRow.holds Try.pinned (OpenSpec.ofChange guardianLastWrong)

/-- 'trustflowlaw34.GuardianBack': WHATEVER THE INPUT: true; the input reads as it did. -/
def guardianBackSpec : ChangeSpec := { name := "guardianBack", fn := fun _ => fun
  | [d1, d2] => { results := [.lit (.bool true)], args := [d1, d2] }
  | _ => none }
def guardianBackRow : OpenClaim := { program := "ytepdfenlkeaefaa", sum := "1be07474c06444ded7ca9b32763a43c0eff950df76a95a4953275eb60e0ef439", func := "trustflow/trustflowlaw34.GuardianBack", spec := "guardianBack", unfollowed := true, recurses := true, apart := false }
def GuardianBackSaid : Prop := guardianBackRow.holds Try.pinned (OpenSpec.ofChange guardianBackSpec)

/-- ITS FALSE NEIGHBOUR: 'it returns false'. Refute it at one input. -/
def guardianBackWrong : ChangeSpec := { name := "guardianBack", fn := fun _ => fun
  | [d1, d2] => { results := [.lit (.bool false)], args := [d1, d2] }
  | _ => none }
def GuardianBackWrongFalsely : Prop := guardianBackRow.holds Try.pinned (OpenSpec.ofChange guardianBackWrong)

/-- 'trustflowlaw25.BeaconMixes': WHATEVER THE INPUT: true; the input reads as it did. -/
def beaconMixesSpec : ChangeSpec := { name := "beaconMixes", fn := fun _ => fun
  | [d1, d2, d3, d4] => { results := [.lit (.bool true)], args := [d1, d2, d3, d4] }
  | _ => none }
def beaconMixesRow : OpenClaim := { program := "ytepdfenlkeaefaa", sum := "1be07474c06444ded7ca9b32763a43c0eff950df76a95a4953275eb60e0ef439", func := "trustflow/trustflowlaw25.BeaconMixes", spec := "beaconMixes", unfollowed := true, recurses := true, apart := false }
def BeaconMixesSaid : Prop := beaconMixesRow.holds Try.pinned (OpenSpec.ofChange beaconMixesSpec)

/-- ITS FALSE NEIGHBOUR: 'it returns false'. Refute it at one input. -/
def beaconMixesWrong : ChangeSpec := { name := "beaconMixes", fn := fun _ => fun
  | [d1, d2, d3, d4] => { results := [.lit (.bool false)], args := [d1, d2, d3, d4] }
  | _ => none }
def BeaconMixesWrongFalsely : Prop := beaconMixesRow.holds Try.pinned (OpenSpec.ofChange beaconMixesWrong)

/-- 'trustflowlaw25.BeaconRaw': WHATEVER THE INPUT: true; the input reads as it did. -/
def beaconRawSpec : ChangeSpec := { name := "beaconRaw", fn := fun _ => fun
  | [d1, d2, d3, d4] => { results := [.lit (.bool true)], args := [d1, d2, d3, d4] }
  | _ => none }
def beaconRawRow : OpenClaim := { program := "ytepdfenlkeaefaa", sum := "1be07474c06444ded7ca9b32763a43c0eff950df76a95a4953275eb60e0ef439", func := "trustflow/trustflowlaw25.BeaconRaw", spec := "beaconRaw", unfollowed := true, recurses := true, apart := false }
def BeaconRawSaid : Prop := beaconRawRow.holds Try.pinned (OpenSpec.ofChange beaconRawSpec)

/-- ITS FALSE NEIGHBOUR: 'it returns false'. Refute it at one input. -/
def beaconRawWrong : ChangeSpec := { name := "beaconRaw", fn := fun _ => fun
  | [d1, d2, d3, d4] => { results := [.lit (.bool false)], args := [d1, d2, d3, d4] }
  | _ => none }
def BeaconRawWrongFalsely : Prop := beaconRawRow.holds Try.pinned (OpenSpec.ofChange beaconRawWrong)

/-- 'trustflowlaw26.CommitteeOf': WHATEVER THE INPUT: true; the input reads as it did. -/
def committeeOfSpec : ChangeSpec := { name := "committeeOf", fn := fun _ => fun
  | [d1, d2, d3] => { results := [.lit (.bool true)], args := [d1, d2, d3] }
  | _ => none }
def committeeOfRow : OpenClaim := { program := "ytepdfenlkeaefaa", sum := "1be07474c06444ded7ca9b32763a43c0eff950df76a95a4953275eb60e0ef439", func := "trustflow/trustflowlaw26.CommitteeOf", spec := "committeeOf", unfollowed := true, recurses := true, apart := false }
def CommitteeOfSaid : Prop := committeeOfRow.holds Try.pinned (OpenSpec.ofChange committeeOfSpec)

/-- ITS FALSE NEIGHBOUR: 'it returns false'. Refute it at one input. -/
def committeeOfWrong : ChangeSpec := { name := "committeeOf", fn := fun _ => fun
  | [d1, d2, d3] => { results := [.lit (.bool false)], args := [d1, d2, d3] }
  | _ => none }
def CommitteeOfWrongFalsely : Prop := committeeOfRow.holds Try.pinned (OpenSpec.ofChange committeeOfWrong)

/-- 'trustflowlaw26.CommitteeApart': WHATEVER THE INPUT: true; the input reads as it did. -/
def committeeApartSpec : ChangeSpec := { name := "committeeApart", fn := fun _ => fun
  | [d1, d2] => { results := [.lit (.bool true)], args := [d1, d2] }
  | _ => none }
def committeeApartRow : OpenClaim := { program := "ytepdfenlkeaefaa", sum := "1be07474c06444ded7ca9b32763a43c0eff950df76a95a4953275eb60e0ef439", func := "trustflow/trustflowlaw26.CommitteeApart", spec := "committeeApart", unfollowed := true, recurses := true, apart := false }
def CommitteeApartSaid : Prop := committeeApartRow.holds Try.pinned (OpenSpec.ofChange committeeApartSpec)

/-- ITS FALSE NEIGHBOUR: 'it returns false'. Refute it at one input. -/
def committeeApartWrong : ChangeSpec := { name := "committeeApart", fn := fun _ => fun
  | [d1, d2] => { results := [.lit (.bool false)], args := [d1, d2] }
  | _ => none }
def CommitteeApartWrongFalsely : Prop := committeeApartRow.holds Try.pinned (OpenSpec.ofChange committeeApartWrong)

/- THE SECOND FORM. 'bulk': how many values and letters a reading holds, each counted each time it is reached (what is shared counts as often as it is met; a slice's spare places count too). A statement '..UptoSaid' is the law's where the arguments, and the package variables that the reading takes, are together of bulk at most 1048576: NARROWER than '..Said'. Prove '..Said' where nothing that the law and all that it calls make is longer than what came in: it says more and counts as full. Else prove '..UptoSaid'. A law counts once. -/
mutual
def uptoBulk {H : Type} : DataW H → Nat
  | .lit (.string bytes) => bytes.length + 1
  | .lit _ => 1
  | .nil => 1
  | .ptr d => uptoBulk d + 1
  | .slice elems spare => uptoBulkAll elems + uptoBulkAll spare + 1
  | .agg parts => uptoBulkAll parts + 1
  | .iface _ d => uptoBulk d + 1
  | .map entries => uptoBulkEntries entries + 1
  | .held _ => 1
def uptoBulkAll {H : Type} : List (DataW H) → Nat
  | [] => 0
  | d :: r => uptoBulk d + uptoBulkAll r
def uptoBulkEntries {H : Type} : List (Lit × DataW H) → Nat
  | [] => 0
  | x :: r => uptoBulkEntry x + uptoBulkEntries r
def uptoBulkEntry {H : Type} : Lit × DataW H → Nat
  | (.string bytes, d) => bytes.length + uptoBulk d + 1
  | (_, d) => uptoBulk d + 1
 end
def uptoSmall : (H : Type) → List (DataW H) → Bool := fun _ ds => decide (uptoBulkAll ds ≤ 1048576)
def OpenSpec.upto (s : _root_.Go.ChangeSpec) : _root_.Go.OpenSpec := { _root_.Go.OpenSpec.ofChange s with cond := some uptoSmall }

/-- 'trustflowlaw01.DigestLong', WHERE WHAT IT READS IS OF BULK AT MOST 1048576: true; the input reads as it did. -/
def digestLongUptoRow : OpenClaim := { program := "ytepdfenlkeaefaa", sum := "1be07474c06444ded7ca9b32763a43c0eff950df76a95a4953275eb60e0ef439", func := "trustflow/trustflowlaw01.DigestLong", spec := "digestLong", unfollowed := true, recurses := true, apart := false, narrowed := true }
def DigestLongUptoSaid : Prop := digestLongUptoRow.holds Try.pinned (OpenSpec.upto digestLongSpec)

/-- 'trustflowlaw24.RosterGenesis', WHERE WHAT IT READS IS OF BULK AT MOST 1048576: true; the input reads as it did. -/
def rosterGenesisUptoRow : OpenClaim := { program := "ytepdfenlkeaefaa", sum := "1be07474c06444ded7ca9b32763a43c0eff950df76a95a4953275eb60e0ef439", func := "trustflow/trustflowlaw24.RosterGenesis", spec := "rosterGenesis", unfollowed := true, recurses := true, apart := false, narrowed := true }
def RosterGenesisUptoSaid : Prop := rosterGenesisUptoRow.holds Try.pinned (OpenSpec.upto rosterGenesisSpec)

/-- 'trustflowlaw34.GuardianAll', WHERE WHAT IT READS IS OF BULK AT MOST 1048576: true; the input reads as it did. -/
def guardianAllUptoRow : OpenClaim := { program := "ytepdfenlkeaefaa", sum := "1be07474c06444ded7ca9b32763a43c0eff950df76a95a4953275eb60e0ef439", func := "trustflow/trustflowlaw34.GuardianAll", spec := "guardianAll", unfollowed := true, recurses := true, apart := false, narrowed := true }
def GuardianAllUptoSaid : Prop := guardianAllUptoRow.holds Try.pinned (OpenSpec.upto guardianAllSpec)

/-- 'trustflowlaw34.GuardianLast', WHERE WHAT IT READS IS OF BULK AT MOST 1048576: true; the input reads as it did. -/
def guardianLastUptoRow : OpenClaim := { program := "ytepdfenlkeaefaa", sum := "1be07474c06444ded7ca9b32763a43c0eff950df76a95a4953275eb60e0ef439", func := "trustflow/trustflowlaw34.GuardianLast", spec := "guardianLast", unfollowed := true, recurses := true, apart := false, narrowed := true }
def GuardianLastUptoSaid : Prop := guardianLastUptoRow.holds Try.pinned (OpenSpec.upto guardianLastSpec)

/-- 'trustflowlaw34.GuardianBack', WHERE WHAT IT READS IS OF BULK AT MOST 1048576: true; the input reads as it did. -/
def guardianBackUptoRow : OpenClaim := { program := "ytepdfenlkeaefaa", sum := "1be07474c06444ded7ca9b32763a43c0eff950df76a95a4953275eb60e0ef439", func := "trustflow/trustflowlaw34.GuardianBack", spec := "guardianBack", unfollowed := true, recurses := true, apart := false, narrowed := true }
def GuardianBackUptoSaid : Prop := guardianBackUptoRow.holds Try.pinned (OpenSpec.upto guardianBackSpec)

/-- 'trustflowlaw25.BeaconMixes', WHERE WHAT IT READS IS OF BULK AT MOST 1048576: true; the input reads as it did. -/
def beaconMixesUptoRow : OpenClaim := { program := "ytepdfenlkeaefaa", sum := "1be07474c06444ded7ca9b32763a43c0eff950df76a95a4953275eb60e0ef439", func := "trustflow/trustflowlaw25.BeaconMixes", spec := "beaconMixes", unfollowed := true, recurses := true, apart := false, narrowed := true }
def BeaconMixesUptoSaid : Prop := beaconMixesUptoRow.holds Try.pinned (OpenSpec.upto beaconMixesSpec)

/-- 'trustflowlaw25.BeaconRaw', WHERE WHAT IT READS IS OF BULK AT MOST 1048576: true; the input reads as it did. -/
def beaconRawUptoRow : OpenClaim := { program := "ytepdfenlkeaefaa", sum := "1be07474c06444ded7ca9b32763a43c0eff950df76a95a4953275eb60e0ef439", func := "trustflow/trustflowlaw25.BeaconRaw", spec := "beaconRaw", unfollowed := true, recurses := true, apart := false, narrowed := true }
def BeaconRawUptoSaid : Prop := beaconRawUptoRow.holds Try.pinned (OpenSpec.upto beaconRawSpec)

/-- 'trustflowlaw26.CommitteeOf', WHERE WHAT IT READS IS OF BULK AT MOST 1048576: true; the input reads as it did. -/
def committeeOfUptoRow : OpenClaim := { program := "ytepdfenlkeaefaa", sum := "1be07474c06444ded7ca9b32763a43c0eff950df76a95a4953275eb60e0ef439", func := "trustflow/trustflowlaw26.CommitteeOf", spec := "committeeOf", unfollowed := true, recurses := true, apart := false, narrowed := true }
def CommitteeOfUptoSaid : Prop := committeeOfUptoRow.holds Try.pinned (OpenSpec.upto committeeOfSpec)

/-- 'trustflowlaw26.CommitteeApart', WHERE WHAT IT READS IS OF BULK AT MOST 1048576: true; the input reads as it did. -/
def committeeApartUptoRow : OpenClaim := { program := "ytepdfenlkeaefaa", sum := "1be07474c06444ded7ca9b32763a43c0eff950df76a95a4953275eb60e0ef439", func := "trustflow/trustflowlaw26.CommitteeApart", spec := "committeeApart", unfollowed := true, recurses := true, apart := false, narrowed := true }
def CommitteeApartUptoSaid : Prop := committeeApartUptoRow.holds Try.pinned (OpenSpec.upto committeeApartSpec)

end Rows
end Go.Proofs.Ytepdfenlkeaefaa
