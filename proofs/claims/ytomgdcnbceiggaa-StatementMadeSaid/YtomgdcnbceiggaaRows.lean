/-
  No cell of these rows narrows 'for every input' (looked for: loops, veiled, ifaces, maps, wideKeys, modest, calm, conditions, laid).
  DERIVED. THE GIVEN ROWS OF THIS SEAT. 4 by the template 'for every input the law returns true; each argument reads behind the call as it read before'; 0 by the template 'total and deterministic' (their statements: YtomgdcnbceiggaaTotals.lean).
  GIVEN WITH THE SEED: the statements are not yours to turn. If you find one false, say at which input.
  Laid BY PROGRAM, IN A SANDBOX (cutbox-rows.mjs): the forced cells as the released guide's own fill.sh prints them over the translation bcbe463b3ff98bb6… (all of the seat's roots in one cut). By AI agents, Wed Nov 11 2026. No macro, syntax, notation, axiom, sorry.
-/
import Derived.Test.YtomgdcnbceiggaaChecked
import GoSem.Claim
import GoSem.ClaimJoined
import GoSem.ClaimMapViews
import Derived.JoinedTies
import Derived.KernelRfl
namespace Go.Proofs.Ytomgdcnbceiggaa
/- THE CELL 'sum', in the pinned program and in every row, IS THE sha256 OF THE DUMP (.gsa) THAT YtomgdcnbceiggaaProg.lean LOADS. Nothing in Lean hashes anything: it is a label: what it is worth is what the hold of that sum in a sandbox is worth. -/
noncomputable def Try.pinned : Pinned := { name := "ytomgdcnbceiggaa", sum := "bcbe463b3ff98bb619352e6b69708470021cb9de0d9718fae2a8df2ef12939e6", checked := Try.checked }
namespace Rows
def none {H : Type} : Left H := { results := [], args := [] }

/-- 'trustflowlaw24.RosterRules': WHATEVER THE INPUT: true; the input reads as it did. -/
def rosterRulesSpec : ChangeSpec := { name := "rosterRules", fn := fun _ => fun
  | [d1, d2] => { results := [.lit (.bool true)], args := [d1, d2] }
  | _ => none }
def rosterRulesRow : OpenClaim := { program := "ytomgdcnbceiggaa", sum := "bcbe463b3ff98bb619352e6b69708470021cb9de0d9718fae2a8df2ef12939e6", func := "trustflow/trustflowlaw24.RosterRules", spec := "rosterRules", unfollowed := true, recurses := true, apart := false }
def RosterRulesSaid : Prop := rosterRulesRow.holds Try.pinned (OpenSpec.ofChange rosterRulesSpec)

/-- ITS FALSE NEIGHBOUR: 'it returns false'. Refute it at one input. -/
def rosterRulesWrong : ChangeSpec := { name := "rosterRules", fn := fun _ => fun
  | [d1, d2] => { results := [.lit (.bool false)], args := [d1, d2] }
  | _ => none }
def RosterRulesWrongFalsely : Prop := rosterRulesRow.holds Try.pinned (OpenSpec.ofChange rosterRulesWrong)

/-- 'trustflowlaw25.BeaconRules': WHATEVER THE INPUT: true; the input reads as it did. -/
def beaconRulesSpec : ChangeSpec := { name := "beaconRules", fn := fun _ => fun
  | [d] => { results := [.lit (.bool true)], args := [d] }
  | _ => none }
def beaconRulesRow : OpenClaim := { program := "ytomgdcnbceiggaa", sum := "bcbe463b3ff98bb619352e6b69708470021cb9de0d9718fae2a8df2ef12939e6", func := "trustflow/trustflowlaw25.BeaconRules", spec := "beaconRules", unfollowed := true, recurses := true, apart := false }
def BeaconRulesSaid : Prop := beaconRulesRow.holds Try.pinned (OpenSpec.ofChange beaconRulesSpec)

/-- ITS FALSE NEIGHBOUR: 'it returns false'. Refute it at one input. -/
def beaconRulesWrong : ChangeSpec := { name := "beaconRules", fn := fun _ => fun
  | [d] => { results := [.lit (.bool false)], args := [d] }
  | _ => none }
def BeaconRulesWrongFalsely : Prop := beaconRulesRow.holds Try.pinned (OpenSpec.ofChange beaconRulesWrong)

/-- 'trustflowlaw03.StatementRaw': WHATEVER THE INPUT: true; the input reads as it did. -/
def statementRawSpec : ChangeSpec := { name := "statementRaw", fn := fun _ => fun
  | [d1, d2, d3] => { results := [.lit (.bool true)], args := [d1, d2, d3] }
  | _ => none }
def statementRawRow : OpenClaim := { program := "ytomgdcnbceiggaa", sum := "bcbe463b3ff98bb619352e6b69708470021cb9de0d9718fae2a8df2ef12939e6", func := "trustflow/trustflowlaw03.StatementRaw", spec := "statementRaw", unfollowed := true, recurses := true, apart := false }
def StatementRawSaid : Prop := statementRawRow.holds Try.pinned (OpenSpec.ofChange statementRawSpec)

/-- ITS FALSE NEIGHBOUR: 'it returns false'. Refute it at one input. -/
def statementRawWrong : ChangeSpec := { name := "statementRaw", fn := fun _ => fun
  | [d1, d2, d3] => { results := [.lit (.bool false)], args := [d1, d2, d3] }
  | _ => none }
def StatementRawWrongFalsely : Prop := statementRawRow.holds Try.pinned (OpenSpec.ofChange statementRawWrong)

/-- 'trustflowlaw03.StatementMade': WHATEVER THE INPUT: true; the input reads as it did. -/
def statementMadeSpec : ChangeSpec := { name := "statementMade", fn := fun _ => fun
  | [d1, d2, d3] => { results := [.lit (.bool true)], args := [d1, d2, d3] }
  | _ => none }
def statementMadeRow : OpenClaim := { program := "ytomgdcnbceiggaa", sum := "bcbe463b3ff98bb619352e6b69708470021cb9de0d9718fae2a8df2ef12939e6", func := "trustflow/trustflowlaw03.StatementMade", spec := "statementMade", unfollowed := true, recurses := true, apart := false }
def StatementMadeSaid : Prop := statementMadeRow.holds Try.pinned (OpenSpec.ofChange statementMadeSpec)

/-- ITS FALSE NEIGHBOUR: 'it returns false'. Refute it at one input. -/
def statementMadeWrong : ChangeSpec := { name := "statementMade", fn := fun _ => fun
  | [d1, d2, d3] => { results := [.lit (.bool false)], args := [d1, d2, d3] }
  | _ => none }
def StatementMadeWrongFalsely : Prop := statementMadeRow.holds Try.pinned (OpenSpec.ofChange statementMadeWrong)

/- THE SECOND FORM. 'bulk': how many values and letters a reading holds, each counted each time it is reached (what is shared counts as often as it is met; a slice's spare places count too). A statement '..UptoSaid' is the law's where the arguments, and the package variables that the reading takes, are together of bulk at most 1048576: NARROWER than '..Said'. Prove '..Said' where nothing that the law and all that it calls make is longer than what came in: it says more and counts as full. Else prove '..UptoSaid'. A law counts once. -/
mutual
def uptoBulk {H : Type} : DataW H → Nat
  | .lit (.string bytes) => bytes.length + 1
  | .lit _ => 1
  | .nil => 1
  | .ptr d => uptoBulk d + 1
  | .slice elems spare => uptoBulkAll elems + uptoBulkAll spare + 1
  | .agg parts => uptoBulkAll parts + 1
  | .iface _ d => uptoBulk d + 1
  | .map entries => uptoBulkEntries entries + 1
  | .held _ => 1
def uptoBulkAll {H : Type} : List (DataW H) → Nat
  | [] => 0
  | d :: r => uptoBulk d + uptoBulkAll r
def uptoBulkEntries {H : Type} : List (Lit × DataW H) → Nat
  | [] => 0
  | x :: r => uptoBulkEntry x + uptoBulkEntries r
def uptoBulkEntry {H : Type} : Lit × DataW H → Nat
  | (.string bytes, d) => bytes.length + uptoBulk d + 1
  | (_, d) => uptoBulk d + 1
 end
def uptoSmall : (H : Type) → List (DataW H) → Bool := fun _ ds => decide (uptoBulkAll ds ≤ 1048576)
def OpenSpec.upto (s : _root_.Go.ChangeSpec) : _root_.Go.OpenSpec := { _root_.Go.OpenSpec.ofChange s with cond := some uptoSmall }

/-- 'trustflowlaw24.RosterRules', WHERE WHAT IT READS IS OF BULK AT MOST 1048576: true; the input reads as it did. -/
def rosterRulesUptoRow : OpenClaim := { program := "ytomgdcnbceiggaa", sum := "bcbe463b3ff98bb619352e6b69708470021cb9de0d9718fae2a8df2ef12939e6", func := "trustflow/trustflowlaw24.RosterRules", spec := "rosterRules", unfollowed := true, recurses := true, apart := false, narrowed := true }
def RosterRulesUptoSaid : Prop := rosterRulesUptoRow.holds Try.pinned (OpenSpec.upto rosterRulesSpec)

/-- 'trustflowlaw25.BeaconRules', WHERE WHAT IT READS IS OF BULK AT MOST 1048576: true; the input reads as it did. -/
def beaconRulesUptoRow : OpenClaim := { program := "ytomgdcnbceiggaa", sum := "bcbe463b3ff98bb619352e6b69708470021cb9de0d9718fae2a8df2ef12939e6", func := "trustflow/trustflowlaw25.BeaconRules", spec := "beaconRules", unfollowed := true, recurses := true, apart := false, narrowed := true }
def BeaconRulesUptoSaid : Prop := beaconRulesUptoRow.holds Try.pinned (OpenSpec.upto beaconRulesSpec)

/-- 'trustflowlaw03.StatementRaw', WHERE WHAT IT READS IS OF BULK AT MOST 1048576: true; the input reads as it did. -/
def statementRawUptoRow : OpenClaim := { program := "ytomgdcnbceiggaa", sum := "bcbe463b3ff98bb619352e6b69708470021cb9de0d9718fae2a8df2ef12939e6", func := "trustflow/trustflowlaw03.StatementRaw", spec := "statementRaw", unfollowed := true, recurses := true, apart := false, narrowed := true }
def StatementRawUptoSaid : Prop := statementRawUptoRow.holds Try.pinned (OpenSpec.upto statementRawSpec)

/-- 'trustflowlaw03.StatementMade', WHERE WHAT IT READS IS OF BULK AT MOST 1048576: true; the input reads as it did. -/
def statementMadeUptoRow : OpenClaim := { program := "ytomgdcnbceiggaa", sum := "bcbe463b3ff98bb619352e6b69708470021cb9de0d9718fae2a8df2ef12939e6", func := "trustflow/trustflowlaw03.StatementMade", spec := "statementMade", unfollowed := true, recurses := true, apart := false, narrowed := true }
def StatementMadeUptoSaid : Prop := statementMadeUptoRow.holds Try.pinned (OpenSpec.upto statementMadeSpec)

end Rows
end Go.Proofs.Ytomgdcnbceiggaa
