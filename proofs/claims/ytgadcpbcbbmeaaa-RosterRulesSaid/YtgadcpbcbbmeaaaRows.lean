/-
  No cell of these rows narrows 'for every input' (looked for: loops, veiled, ifaces, maps, wideKeys, modest, calm, conditions, laid).
  DERIVED. THE GIVEN ROWS OF THIS SEAT. 22 by the template 'for every input the law returns true; each argument reads behind the call as it read before'; 0 by the template 'total and deterministic' (their statements: YtgadcpbcbbmeaaaTotals.lean).
  GIVEN WITH THE SEED: the statements are not yours to turn. If you find one false, say at which input.
  Laid BY PROGRAM, IN A SANDBOX (cutbox-rows.mjs): the forced cells as the released guide's own fill.sh prints them over the translation 6fc44d2d6b9d64ee… (all of the seat's roots in one cut). By AI agents, Wed Nov 11 2026. No macro, syntax, notation, axiom, sorry.
-/
import Derived.Test.YtgadcpbcbbmeaaaChecked
import GoSem.Claim
import GoSem.ClaimJoined
import GoSem.ClaimMapViews
import Derived.JoinedTies
import Derived.KernelRfl
namespace Go.Proofs.Ytgadcpbcbbmeaaa
/- THE CELL 'sum', in the pinned program and in every row, IS THE sha256 OF THE DUMP (.gsa) THAT YtgadcpbcbbmeaaaProg.lean LOADS. Nothing in Lean hashes anything: it is a label: what it is worth is what the hold of that sum in a sandbox is worth. -/
noncomputable def Try.pinned : Pinned := { name := "ytgadcpbcbbmeaaa", sum := "6fc44d2d6b9d64ee9af41937c1bd27d9f8dd5cc4d95d1857996f524dc6177958", checked := Try.checked }
namespace Rows
def none {H : Type} : Left H := { results := [], args := [] }

/-- 'trustflowlaw23.CasesVotes': WHATEVER THE INPUT: true; the input reads as it did. -/
def casesVotesSpec : ChangeSpec := { name := "casesVotes", fn := fun _ => fun
  | [d1, d2] => { results := [.lit (.bool true)], args := [d1, d2] }
  | _ => none }
def casesVotesRow : OpenClaim := { program := "ytgadcpbcbbmeaaa", sum := "6fc44d2d6b9d64ee9af41937c1bd27d9f8dd5cc4d95d1857996f524dc6177958", func := "trustflow/trustflowlaw23.CasesVotes", spec := "casesVotes", unfollowed := true, recurses := true, apart := false }
def CasesVotesSaid : Prop := casesVotesRow.holds Try.pinned (OpenSpec.ofChange casesVotesSpec)

/-- ITS FALSE NEIGHBOUR: 'it returns false'. Refute it at one input. -/
def casesVotesWrong : ChangeSpec := { name := "casesVotes", fn := fun _ => fun
  | [d1, d2] => { results := [.lit (.bool false)], args := [d1, d2] }
  | _ => none }
def CasesVotesWrongFalsely : Prop := casesVotesRow.holds Try.pinned (OpenSpec.ofChange casesVotesWrong)

/-- 'trustflowlaw25.BeaconMixes': WHATEVER THE INPUT: true; the input reads as it did. -/
def beaconMixesSpec : ChangeSpec := { name := "beaconMixes", fn := fun _ => fun
  | [d1, d2, d3, d4] => { results := [.lit (.bool true)], args := [d1, d2, d3, d4] }
  | _ => none }
def beaconMixesRow : OpenClaim := { program := "ytgadcpbcbbmeaaa", sum := "6fc44d2d6b9d64ee9af41937c1bd27d9f8dd5cc4d95d1857996f524dc6177958", func := "trustflow/trustflowlaw25.BeaconMixes", spec := "beaconMixes", unfollowed := true, recurses := true, apart := false }
def BeaconMixesSaid : Prop := beaconMixesRow.holds Try.pinned (OpenSpec.ofChange beaconMixesSpec)

/-- ITS FALSE NEIGHBOUR: 'it returns false'. Refute it at one input. -/
def beaconMixesWrong : ChangeSpec := { name := "beaconMixes", fn := fun _ => fun
  | [d1, d2, d3, d4] => { results := [.lit (.bool false)], args := [d1, d2, d3, d4] }
  | _ => none }
def BeaconMixesWrongFalsely : Prop := beaconMixesRow.holds Try.pinned (OpenSpec.ofChange beaconMixesWrong)

/-- 'trustflowlaw25.BeaconNumbers': WHATEVER THE INPUT: true; the input reads as it did. -/
def beaconNumbersSpec : ChangeSpec := { name := "beaconNumbers", fn := fun _ => fun
  | [d1, d2, d3, d4, d5] => { results := [.lit (.bool true)], args := [d1, d2, d3, d4, d5] }
  | _ => none }
def beaconNumbersRow : OpenClaim := { program := "ytgadcpbcbbmeaaa", sum := "6fc44d2d6b9d64ee9af41937c1bd27d9f8dd5cc4d95d1857996f524dc6177958", func := "trustflow/trustflowlaw25.BeaconNumbers", spec := "beaconNumbers", unfollowed := true, recurses := true, apart := false }
def BeaconNumbersSaid : Prop := beaconNumbersRow.holds Try.pinned (OpenSpec.ofChange beaconNumbersSpec)

/-- ITS FALSE NEIGHBOUR: 'it returns false'. Refute it at one input. -/
def beaconNumbersWrong : ChangeSpec := { name := "beaconNumbers", fn := fun _ => fun
  | [d1, d2, d3, d4, d5] => { results := [.lit (.bool false)], args := [d1, d2, d3, d4, d5] }
  | _ => none }
def BeaconNumbersWrongFalsely : Prop := beaconNumbersRow.holds Try.pinned (OpenSpec.ofChange beaconNumbersWrong)

/-- 'trustflowlaw25.BeaconRaw': WHATEVER THE INPUT: true; the input reads as it did. -/
def beaconRawSpec : ChangeSpec := { name := "beaconRaw", fn := fun _ => fun
  | [d1, d2, d3, d4] => { results := [.lit (.bool true)], args := [d1, d2, d3, d4] }
  | _ => none }
def beaconRawRow : OpenClaim := { program := "ytgadcpbcbbmeaaa", sum := "6fc44d2d6b9d64ee9af41937c1bd27d9f8dd5cc4d95d1857996f524dc6177958", func := "trustflow/trustflowlaw25.BeaconRaw", spec := "beaconRaw", unfollowed := true, recurses := true, apart := false }
def BeaconRawSaid : Prop := beaconRawRow.holds Try.pinned (OpenSpec.ofChange beaconRawSpec)

/-- ITS FALSE NEIGHBOUR: 'it returns false'. Refute it at one input. -/
def beaconRawWrong : ChangeSpec := { name := "beaconRaw", fn := fun _ => fun
  | [d1, d2, d3, d4] => { results := [.lit (.bool false)], args := [d1, d2, d3, d4] }
  | _ => none }
def BeaconRawWrongFalsely : Prop := beaconRawRow.holds Try.pinned (OpenSpec.ofChange beaconRawWrong)

/-- 'trustflowlaw24.RosterRules': WHATEVER THE INPUT: true; the input reads as it did. -/
def rosterRulesSpec : ChangeSpec := { name := "rosterRules", fn := fun _ => fun
  | [d1, d2] => { results := [.lit (.bool true)], args := [d1, d2] }
  | _ => none }
def rosterRulesRow : OpenClaim := { program := "ytgadcpbcbbmeaaa", sum := "6fc44d2d6b9d64ee9af41937c1bd27d9f8dd5cc4d95d1857996f524dc6177958", func := "trustflow/trustflowlaw24.RosterRules", spec := "rosterRules", unfollowed := true, recurses := true, apart := false }
def RosterRulesSaid : Prop := rosterRulesRow.holds Try.pinned (OpenSpec.ofChange rosterRulesSpec)

/-- ITS FALSE NEIGHBOUR: 'it returns false'. Refute it at one input. -/
def rosterRulesWrong : ChangeSpec := { name := "rosterRules", fn := fun _ => fun
  | [d1, d2] => { results := [.lit (.bool false)], args := [d1, d2] }
  | _ => none }
def RosterRulesWrongFalsely : Prop := rosterRulesRow.holds Try.pinned (OpenSpec.ofChange rosterRulesWrong)

/-- 'trustflowlaw24.RosterGenesis': WHATEVER THE INPUT: true; the input reads as it did. -/
def rosterGenesisSpec : ChangeSpec := { name := "rosterGenesis", fn := fun _ => fun
  | [d1, d2] => { results := [.lit (.bool true)], args := [d1, d2] }
  | _ => none }
def rosterGenesisRow : OpenClaim := { program := "ytgadcpbcbbmeaaa", sum := "6fc44d2d6b9d64ee9af41937c1bd27d9f8dd5cc4d95d1857996f524dc6177958", func := "trustflow/trustflowlaw24.RosterGenesis", spec := "rosterGenesis", unfollowed := true, recurses := true, apart := false }
def RosterGenesisSaid : Prop := rosterGenesisRow.holds Try.pinned (OpenSpec.ofChange rosterGenesisSpec)

/-- ITS FALSE NEIGHBOUR: 'it returns false'. Refute it at one input. -/
def rosterGenesisWrong : ChangeSpec := { name := "rosterGenesis", fn := fun _ => fun
  | [d1, d2] => { results := [.lit (.bool false)], args := [d1, d2] }
  | _ => none }
def RosterGenesisWrongFalsely : Prop := rosterGenesisRow.holds Try.pinned (OpenSpec.ofChange rosterGenesisWrong)

/-- 'trustflowlaw23.CasesRaw': WHATEVER THE INPUT: true; the input reads as it did. -/
def casesRawSpec : ChangeSpec := { name := "casesRaw", fn := fun _ => fun
  | [d1, d2, d3] => { results := [.lit (.bool true)], args := [d1, d2, d3] }
  | _ => none }
def casesRawRow : OpenClaim := { program := "ytgadcpbcbbmeaaa", sum := "6fc44d2d6b9d64ee9af41937c1bd27d9f8dd5cc4d95d1857996f524dc6177958", func := "trustflow/trustflowlaw23.CasesRaw", spec := "casesRaw", inPlace := ["internal/bytealg.abigen_runtime_cmpstring"], unfollowed := true, recurses := true, apart := false }
def CasesRawSaid : Prop := casesRawRow.holds Try.pinned (OpenSpec.ofChange casesRawSpec)

/-- ITS FALSE NEIGHBOUR: 'it returns false'. Refute it at one input. -/
def casesRawWrong : ChangeSpec := { name := "casesRaw", fn := fun _ => fun
  | [d1, d2, d3] => { results := [.lit (.bool false)], args := [d1, d2, d3] }
  | _ => none }
def CasesRawWrongFalsely : Prop := casesRawRow.holds Try.pinned (OpenSpec.ofChange casesRawWrong)

/-- 'trustflowlaw23.CasesBack': WHATEVER THE INPUT: true; the input reads as it did. -/
def casesBackSpec : ChangeSpec := { name := "casesBack", fn := fun _ => fun
  | [d1, d2] => { results := [.lit (.bool true)], args := [d1, d2] }
  | _ => none }
def casesBackRow : OpenClaim := { program := "ytgadcpbcbbmeaaa", sum := "6fc44d2d6b9d64ee9af41937c1bd27d9f8dd5cc4d95d1857996f524dc6177958", func := "trustflow/trustflowlaw23.CasesBack", spec := "casesBack", inPlace := ["internal/bytealg.abigen_runtime_cmpstring"], unfollowed := true, recurses := true, apart := false }
def CasesBackSaid : Prop := casesBackRow.holds Try.pinned (OpenSpec.ofChange casesBackSpec)

/-- ITS FALSE NEIGHBOUR: 'it returns false'. Refute it at one input. -/
def casesBackWrong : ChangeSpec := { name := "casesBack", fn := fun _ => fun
  | [d1, d2] => { results := [.lit (.bool false)], args := [d1, d2] }
  | _ => none }
def CasesBackWrongFalsely : Prop := casesBackRow.holds Try.pinned (OpenSpec.ofChange casesBackWrong)

/-- 'trustflowlaw23.CasesOrder': WHATEVER THE INPUT: true; the input reads as it did. -/
def casesOrderSpec : ChangeSpec := { name := "casesOrder", fn := fun _ => fun
  | [d] => { results := [.lit (.bool true)], args := [d] }
  | _ => none }
def casesOrderRow : OpenClaim := { program := "ytgadcpbcbbmeaaa", sum := "6fc44d2d6b9d64ee9af41937c1bd27d9f8dd5cc4d95d1857996f524dc6177958", func := "trustflow/trustflowlaw23.CasesOrder", spec := "casesOrder", inPlace := ["internal/bytealg.abigen_runtime_cmpstring"], unfollowed := true, recurses := true, apart := false }
def CasesOrderSaid : Prop := casesOrderRow.holds Try.pinned (OpenSpec.ofChange casesOrderSpec)

/-- ITS FALSE NEIGHBOUR: 'it returns false'. Refute it at one input. -/
def casesOrderWrong : ChangeSpec := { name := "casesOrder", fn := fun _ => fun
  | [d] => { results := [.lit (.bool false)], args := [d] }
  | _ => none }
def CasesOrderWrongFalsely : Prop := casesOrderRow.holds Try.pinned (OpenSpec.ofChange casesOrderWrong)

/-- 'trustflowlaw23.CasesApart': WHATEVER THE INPUT: true; the input reads as it did. -/
def casesApartSpec : ChangeSpec := { name := "casesApart", fn := fun _ => fun
  | [d] => { results := [.lit (.bool true)], args := [d] }
  | _ => none }
def casesApartRow : OpenClaim := { program := "ytgadcpbcbbmeaaa", sum := "6fc44d2d6b9d64ee9af41937c1bd27d9f8dd5cc4d95d1857996f524dc6177958", func := "trustflow/trustflowlaw23.CasesApart", spec := "casesApart", inPlace := ["internal/bytealg.abigen_runtime_cmpstring"], unfollowed := true, recurses := true, apart := false }
def CasesApartSaid : Prop := casesApartRow.holds Try.pinned (OpenSpec.ofChange casesApartSpec)

/-- ITS FALSE NEIGHBOUR: 'it returns false'. Refute it at one input. -/
def casesApartWrong : ChangeSpec := { name := "casesApart", fn := fun _ => fun
  | [d] => { results := [.lit (.bool false)], args := [d] }
  | _ => none }
def CasesApartWrongFalsely : Prop := casesApartRow.holds Try.pinned (OpenSpec.ofChange casesApartWrong)

/-- 'trustflowlaw23.CasesForged': WHATEVER THE INPUT: true; the input reads as it did. -/
def casesForgedSpec : ChangeSpec := { name := "casesForged", fn := fun _ => fun
  | [d1, d2] => { results := [.lit (.bool true)], args := [d1, d2] }
  | _ => none }
def casesForgedRow : OpenClaim := { program := "ytgadcpbcbbmeaaa", sum := "6fc44d2d6b9d64ee9af41937c1bd27d9f8dd5cc4d95d1857996f524dc6177958", func := "trustflow/trustflowlaw23.CasesForged", spec := "casesForged", inPlace := ["internal/bytealg.abigen_runtime_cmpstring"], unfollowed := true, recurses := true, apart := false }
def CasesForgedSaid : Prop := casesForgedRow.holds Try.pinned (OpenSpec.ofChange casesForgedSpec)

/-- ITS FALSE NEIGHBOUR: 'it returns false'. Refute it at one input. -/
def casesForgedWrong : ChangeSpec := { name := "casesForged", fn := fun _ => fun
  | [d1, d2] => { results := [.lit (.bool false)], args := [d1, d2] }
  | _ => none }
def CasesForgedWrongFalsely : Prop := casesForgedRow.holds Try.pinned (OpenSpec.ofChange casesForgedWrong)

/-- 'trustflowlaw34.GuardianAll': WHATEVER THE INPUT: true; the input reads as it did. -/
def guardianAllSpec : ChangeSpec := { name := "guardianAll", fn := fun _ => fun
  | [d1, d2] => { results := [.lit (.bool true)], args := [d1, d2] }
  | _ => none }
def guardianAllRow : OpenClaim := { program := "ytgadcpbcbbmeaaa", sum := "6fc44d2d6b9d64ee9af41937c1bd27d9f8dd5cc4d95d1857996f524dc6177958", func := "trustflow/trustflowlaw34.GuardianAll", spec := "guardianAll", unfollowed := true, recurses := true, apart := false }
def GuardianAllSaid : Prop := guardianAllRow.holds Try.pinned (OpenSpec.ofChange guardianAllSpec)

/-- ITS FALSE NEIGHBOUR: 'it returns false'. Refute it at one input. -/
def guardianAllWrong : ChangeSpec := { name := "guardianAll", fn := fun _ => fun
  | [d1, d2] => { results := [.lit (.bool false)], args := [d1, d2] }
  | _ => none }
def GuardianAllWrongFalsely : Prop := guardianAllRow.holds Try.pinned (OpenSpec.ofChange guardianAllWrong)

/-- 'trustflowlaw34.GuardianLast': WHATEVER THE INPUT: true; the input reads as it did. -/
def guardianLastSpec : ChangeSpec := { name := "guardianLast", fn := fun _ => fun
  | [d] => { results := [.lit (.bool true)], args := [d] }
  | _ => none }
def guardianLastRow : OpenClaim := { program := "ytgadcpbcbbmeaaa", sum := "6fc44d2d6b9d64ee9af41937c1bd27d9f8dd5cc4d95d1857996f524dc6177958", func := "trustflow/trustflowlaw34.GuardianLast", spec := "guardianLast", unfollowed := true, recurses := true, apart := false }
def GuardianLastSaid : Prop := guardianLastRow.holds Try.pinned (OpenSpec.ofChange guardianLastSpec)

/-- ITS FALSE NEIGHBOUR: 'it returns false'. Refute it at one input. -/
def guardianLastWrong : ChangeSpec := { name := "guardianLast", fn := fun _ => fun
  | [d] => { results := [.lit (.bool false)], args := [d] }
  | _ => none }
def GuardianLastWrongFalsely : Prop := guardianLastRow.holds Try.pinned (OpenSpec.ofChange guardianLastWrong)

/-- 'trustflowlaw34.GuardianBack': WHATEVER THE INPUT: true; the input reads as it did. -/
def guardianBackSpec : ChangeSpec := { name := "guardianBack", fn := fun _ => fun
  | [d1, d2] => { results := [.lit (.bool true)], args := [d1, d2] }
  | _ => none }
def guardianBackRow : OpenClaim := { program := "ytgadcpbcbbmeaaa", sum := "6fc44d2d6b9d64ee9af41937c1bd27d9f8dd5cc4d95d1857996f524dc6177958", func := "trustflow/trustflowlaw34.GuardianBack", spec := "guardianBack", unfollowed := true, recurses := true, apart := false }
def GuardianBackSaid : Prop := guardianBackRow.holds Try.pinned (OpenSpec.ofChange guardianBackSpec)

/-- ITS FALSE NEIGHBOUR: 'it returns false'. Refute it at one input. -/
def guardianBackWrong : ChangeSpec := { name := "guardianBack", fn := fun _ => fun
  | [d1, d2] => { results := [.lit (.bool false)], args := [d1, d2] }
  | _ => none }
def GuardianBackWrongFalsely : Prop := guardianBackRow.holds Try.pinned (OpenSpec.ofChange guardianBackWrong)

/-- 'trustflowlaw25.BeaconRules': WHATEVER THE INPUT: true; the input reads as it did. -/
def beaconRulesSpec : ChangeSpec := { name := "beaconRules", fn := fun _ => fun
  | [d] => { results := [.lit (.bool true)], args := [d] }
  | _ => none }
def beaconRulesRow : OpenClaim := { program := "ytgadcpbcbbmeaaa", sum := "6fc44d2d6b9d64ee9af41937c1bd27d9f8dd5cc4d95d1857996f524dc6177958", func := "trustflow/trustflowlaw25.BeaconRules", spec := "beaconRules", unfollowed := true, recurses := true, apart := false }
def BeaconRulesSaid : Prop := beaconRulesRow.holds Try.pinned (OpenSpec.ofChange beaconRulesSpec)

/-- ITS FALSE NEIGHBOUR: 'it returns false'. Refute it at one input. -/
def beaconRulesWrong : ChangeSpec := { name := "beaconRules", fn := fun _ => fun
  | [d] => { results := [.lit (.bool false)], args := [d] }
  | _ => none }
def BeaconRulesWrongFalsely : Prop := beaconRulesRow.holds Try.pinned (OpenSpec.ofChange beaconRulesWrong)

/-- 'trustflowlaw03.StatementRaw': WHATEVER THE INPUT: true; the input reads as it did. -/
def statementRawSpec : ChangeSpec := { name := "statementRaw", fn := fun _ => fun
  | [d1, d2, d3] => { results := [.lit (.bool true)], args := [d1, d2, d3] }
  | _ => none }
def statementRawRow : OpenClaim := { program := "ytgadcpbcbbmeaaa", sum := "6fc44d2d6b9d64ee9af41937c1bd27d9f8dd5cc4d95d1857996f524dc6177958", func := "trustflow/trustflowlaw03.StatementRaw", spec := "statementRaw", unfollowed := true, recurses := true, apart := false }
def StatementRawSaid : Prop := statementRawRow.holds Try.pinned (OpenSpec.ofChange statementRawSpec)

/-- ITS FALSE NEIGHBOUR: 'it returns false'. Refute it at one input. -/
def statementRawWrong : ChangeSpec := { name := "statementRaw", fn := fun _ => fun
  | [d1, d2, d3] => { results := [.lit (.bool false)], args := [d1, d2, d3] }
  | _ => none }
def StatementRawWrongFalsely : Prop := statementRawRow.holds Try.pinned (OpenSpec.ofChange statementRawWrong)

/-- 'trustflowlaw03.StatementMade': WHATEVER THE INPUT: true; the input reads as it did. -/
def statementMadeSpec : ChangeSpec := { name := "statementMade", fn := fun _ => fun
  | [d1, d2, d3] => { results := [.lit (.bool true)], args := [d1, d2, d3] }
  | _ => none }
def statementMadeRow : OpenClaim := { program := "ytgadcpbcbbmeaaa", sum := "6fc44d2d6b9d64ee9af41937c1bd27d9f8dd5cc4d95d1857996f524dc6177958", func := "trustflow/trustflowlaw03.StatementMade", spec := "statementMade", unfollowed := true, recurses := true, apart := false }
def StatementMadeSaid : Prop := statementMadeRow.holds Try.pinned (OpenSpec.ofChange statementMadeSpec)

/-- ITS FALSE NEIGHBOUR: 'it returns false'. Refute it at one input. -/
def statementMadeWrong : ChangeSpec := { name := "statementMade", fn := fun _ => fun
  | [d1, d2, d3] => { results := [.lit (.bool false)], args := [d1, d2, d3] }
  | _ => none }
def StatementMadeWrongFalsely : Prop := statementMadeRow.holds Try.pinned (OpenSpec.ofChange statementMadeWrong)

/-- 'trustflowlaw03.StatementSeals': WHATEVER THE INPUT: true; the input reads as it did. -/
def statementSealsSpec : ChangeSpec := { name := "statementSeals", fn := fun _ => fun
  | [d1, d2] => { results := [.lit (.bool true)], args := [d1, d2] }
  | _ => none }
def statementSealsRow : OpenClaim := { program := "ytgadcpbcbbmeaaa", sum := "6fc44d2d6b9d64ee9af41937c1bd27d9f8dd5cc4d95d1857996f524dc6177958", func := "trustflow/trustflowlaw03.StatementSeals", spec := "statementSeals", unfollowed := true, recurses := true, apart := false }
def StatementSealsSaid : Prop := statementSealsRow.holds Try.pinned (OpenSpec.ofChange statementSealsSpec)

/-- ITS FALSE NEIGHBOUR: 'it returns false'. Refute it at one input. -/
def statementSealsWrong : ChangeSpec := { name := "statementSeals", fn := fun _ => fun
  | [d1, d2] => { results := [.lit (.bool false)], args := [d1, d2] }
  | _ => none }
def StatementSealsWrongFalsely : Prop := statementSealsRow.holds Try.pinned (OpenSpec.ofChange statementSealsWrong)

/-- 'trustflowlaw25.BeaconChain': WHATEVER THE INPUT: true; the input reads as it did. -/
def beaconChainSpec : ChangeSpec := { name := "beaconChain", fn := fun _ => fun
  | [d] => { results := [.lit (.bool true)], args := [d] }
  | _ => none }
def beaconChainRow : OpenClaim := { program := "ytgadcpbcbbmeaaa", sum := "6fc44d2d6b9d64ee9af41937c1bd27d9f8dd5cc4d95d1857996f524dc6177958", func := "trustflow/trustflowlaw25.BeaconChain", spec := "beaconChain", unfollowed := true, recurses := true, apart := false }
def BeaconChainSaid : Prop := beaconChainRow.holds Try.pinned (OpenSpec.ofChange beaconChainSpec)

/-- ITS FALSE NEIGHBOUR: 'it returns false'. Refute it at one input. -/
def beaconChainWrong : ChangeSpec := { name := "beaconChain", fn := fun _ => fun
  | [d] => { results := [.lit (.bool false)], args := [d] }
  | _ => none }
def BeaconChainWrongFalsely : Prop := beaconChainRow.holds Try.pinned (OpenSpec.ofChange beaconChainWrong)

/-- 'trustflowlaw26.CommitteeOf': WHATEVER THE INPUT: true; the input reads as it did. -/
def committeeOfSpec : ChangeSpec := { name := "committeeOf", fn := fun _ => fun
  | [d1, d2, d3] => { results := [.lit (.bool true)], args := [d1, d2, d3] }
  | _ => none }
def committeeOfRow : OpenClaim := { program := "ytgadcpbcbbmeaaa", sum := "6fc44d2d6b9d64ee9af41937c1bd27d9f8dd5cc4d95d1857996f524dc6177958", func := "trustflow/trustflowlaw26.CommitteeOf", spec := "committeeOf", unfollowed := true, recurses := true, apart := false }
def CommitteeOfSaid : Prop := committeeOfRow.holds Try.pinned (OpenSpec.ofChange committeeOfSpec)

/-- ITS FALSE NEIGHBOUR: 'it returns false'. Refute it at one input. -/
def committeeOfWrong : ChangeSpec := { name := "committeeOf", fn := fun _ => fun
  | [d1, d2, d3] => { results := [.lit (.bool false)], args := [d1, d2, d3] }
  | _ => none }
def CommitteeOfWrongFalsely : Prop := committeeOfRow.holds Try.pinned (OpenSpec.ofChange committeeOfWrong)

/-- 'trustflowlaw26.CommitteeApart': WHATEVER THE INPUT: true; the input reads as it did. -/
def committeeApartSpec : ChangeSpec := { name := "committeeApart", fn := fun _ => fun
  | [d1, d2] => { results := [.lit (.bool true)], args := [d1, d2] }
  | _ => none }
def committeeApartRow : OpenClaim := { program := "ytgadcpbcbbmeaaa", sum := "6fc44d2d6b9d64ee9af41937c1bd27d9f8dd5cc4d95d1857996f524dc6177958", func := "trustflow/trustflowlaw26.CommitteeApart", spec := "committeeApart", unfollowed := true, recurses := true, apart := false }
def CommitteeApartSaid : Prop := committeeApartRow.holds Try.pinned (OpenSpec.ofChange committeeApartSpec)

/-- ITS FALSE NEIGHBOUR: 'it returns false'. Refute it at one input. -/
def committeeApartWrong : ChangeSpec := { name := "committeeApart", fn := fun _ => fun
  | [d1, d2] => { results := [.lit (.bool false)], args := [d1, d2] }
  | _ => none }
def CommitteeApartWrongFalsely : Prop := committeeApartRow.holds Try.pinned (OpenSpec.ofChange committeeApartWrong)

/-- 'trustflowlaw01.DigestLong': WHATEVER THE INPUT: true; the input reads as it did. -/
def digestLongSpec : ChangeSpec := { name := "digestLong", fn := fun _ => fun
  | [d1, d2] => { results := [.lit (.bool true)], args := [d1, d2] }
  | _ => none }
def digestLongRow : OpenClaim := { program := "ytgadcpbcbbmeaaa", sum := "6fc44d2d6b9d64ee9af41937c1bd27d9f8dd5cc4d95d1857996f524dc6177958", func := "trustflow/trustflowlaw01.DigestLong", spec := "digestLong", unfollowed := true, recurses := true, apart := false }
def DigestLongSaid : Prop := digestLongRow.holds Try.pinned (OpenSpec.ofChange digestLongSpec)

/-- ITS FALSE NEIGHBOUR: 'it returns false'. Refute it at one input. -/
def digestLongWrong : ChangeSpec := { name := "digestLong", fn := fun _ => fun
  | [d1, d2] => { results := [.lit (.bool false)], args := [d1, d2] }
  | _ => none }
def DigestLongWrongFalsely : Prop := digestLongRow.holds Try.pinned (OpenSpec.ofChange digestLongWrong)

/- THE SECOND FORM. 'bulk': how many values and letters a reading holds, each counted each time it is reached (what is shared counts as often as it is met; a slice's spare places count too). A statement '..UptoSaid' is the law's where the arguments, and the package variables that the reading takes, are together of bulk at most 1048576: NARROWER than '..Said'. Prove '..Said' where nothing that the law and all that it calls make is longer than what came in: it says more and counts as full. Else prove '..UptoSaid'. A law counts once. -/
mutual
def uptoBulk {H : Type} : DataW H → Nat
  | .lit (.string bytes) => bytes.length + 1
  | .lit _ => 1
  | .nil => 1
  | .ptr d => uptoBulk d + 1
  | .slice elems spare => uptoBulkAll elems + uptoBulkAll spare + 1
  | .agg parts => uptoBulkAll parts + 1
  | .iface _ d => uptoBulk d + 1
  | .map entries => uptoBulkEntries entries + 1
  | .held _ => 1
def uptoBulkAll {H : Type} : List (DataW H) → Nat
  | [] => 0
  | d :: r => uptoBulk d + uptoBulkAll r
def uptoBulkEntries {H : Type} : List (Lit × DataW H) → Nat
  | [] => 0
  | x :: r => uptoBulkEntry x + uptoBulkEntries r
def uptoBulkEntry {H : Type} : Lit × DataW H → Nat
  | (.string bytes, d) => bytes.length + uptoBulk d + 1
  | (_, d) => uptoBulk d + 1
 end
def uptoSmall : (H : Type) → List (DataW H) → Bool := fun _ ds => decide (uptoBulkAll ds ≤ 1048576)
def OpenSpec.upto (s : _root_.Go.ChangeSpec) : _root_.Go.OpenSpec := { _root_.Go.OpenSpec.ofChange s with cond := some uptoSmall }

/-- 'trustflowlaw23.CasesVotes', WHERE WHAT IT READS IS OF BULK AT MOST 1048576: true; the input reads as it did. -/
def casesVotesUptoRow : OpenClaim := { program := "ytgadcpbcbbmeaaa", sum := "6fc44d2d6b9d64ee9af41937c1bd27d9f8dd5cc4d95d1857996f524dc6177958", func := "trustflow/trustflowlaw23.CasesVotes", spec := "casesVotes", unfollowed := true, recurses := true, apart := false, narrowed := true }
def CasesVotesUptoSaid : Prop := casesVotesUptoRow.holds Try.pinned (OpenSpec.upto casesVotesSpec)

/-- 'trustflowlaw25.BeaconMixes', WHERE WHAT IT READS IS OF BULK AT MOST 1048576: true; the input reads as it did. -/
def beaconMixesUptoRow : OpenClaim := { program := "ytgadcpbcbbmeaaa", sum := "6fc44d2d6b9d64ee9af41937c1bd27d9f8dd5cc4d95d1857996f524dc6177958", func := "trustflow/trustflowlaw25.BeaconMixes", spec := "beaconMixes", unfollowed := true, recurses := true, apart := false, narrowed := true }
def BeaconMixesUptoSaid : Prop := beaconMixesUptoRow.holds Try.pinned (OpenSpec.upto beaconMixesSpec)

/-- 'trustflowlaw25.BeaconNumbers', WHERE WHAT IT READS IS OF BULK AT MOST 1048576: true; the input reads as it did. -/
def beaconNumbersUptoRow : OpenClaim := { program := "ytgadcpbcbbmeaaa", sum := "6fc44d2d6b9d64ee9af41937c1bd27d9f8dd5cc4d95d1857996f524dc6177958", func := "trustflow/trustflowlaw25.BeaconNumbers", spec := "beaconNumbers", unfollowed := true, recurses := true, apart := false, narrowed := true }
def BeaconNumbersUptoSaid : Prop := beaconNumbersUptoRow.holds Try.pinned (OpenSpec.upto beaconNumbersSpec)

/-- 'trustflowlaw25.BeaconRaw', WHERE WHAT IT READS IS OF BULK AT MOST 1048576: true; the input reads as it did. -/
def beaconRawUptoRow : OpenClaim := { program := "ytgadcpbcbbmeaaa", sum := "6fc44d2d6b9d64ee9af41937c1bd27d9f8dd5cc4d95d1857996f524dc6177958", func := "trustflow/trustflowlaw25.BeaconRaw", spec := "beaconRaw", unfollowed := true, recurses := true, apart := false, narrowed := true }
def BeaconRawUptoSaid : Prop := beaconRawUptoRow.holds Try.pinned (OpenSpec.upto beaconRawSpec)

/-- 'trustflowlaw24.RosterRules', WHERE WHAT IT READS IS OF BULK AT MOST 1048576: true; the input reads as it did. -/
def rosterRulesUptoRow : OpenClaim := { program := "ytgadcpbcbbmeaaa", sum := "6fc44d2d6b9d64ee9af41937c1bd27d9f8dd5cc4d95d1857996f524dc6177958", func := "trustflow/trustflowlaw24.RosterRules", spec := "rosterRules", unfollowed := true, recurses := true, apart := false, narrowed := true }
def RosterRulesUptoSaid : Prop := rosterRulesUptoRow.holds Try.pinned (OpenSpec.upto rosterRulesSpec)

/-- 'trustflowlaw24.RosterGenesis', WHERE WHAT IT READS IS OF BULK AT MOST 1048576: true; the input reads as it did. -/
def rosterGenesisUptoRow : OpenClaim := { program := "ytgadcpbcbbmeaaa", sum := "6fc44d2d6b9d64ee9af41937c1bd27d9f8dd5cc4d95d1857996f524dc6177958", func := "trustflow/trustflowlaw24.RosterGenesis", spec := "rosterGenesis", unfollowed := true, recurses := true, apart := false, narrowed := true }
def RosterGenesisUptoSaid : Prop := rosterGenesisUptoRow.holds Try.pinned (OpenSpec.upto rosterGenesisSpec)

/-- 'trustflowlaw23.CasesRaw', WHERE WHAT IT READS IS OF BULK AT MOST 1048576: true; the input reads as it did. -/
def casesRawUptoRow : OpenClaim := { program := "ytgadcpbcbbmeaaa", sum := "6fc44d2d6b9d64ee9af41937c1bd27d9f8dd5cc4d95d1857996f524dc6177958", func := "trustflow/trustflowlaw23.CasesRaw", spec := "casesRaw", inPlace := ["internal/bytealg.abigen_runtime_cmpstring"], unfollowed := true, recurses := true, apart := false, narrowed := true }
def CasesRawUptoSaid : Prop := casesRawUptoRow.holds Try.pinned (OpenSpec.upto casesRawSpec)

/-- 'trustflowlaw23.CasesBack', WHERE WHAT IT READS IS OF BULK AT MOST 1048576: true; the input reads as it did. -/
def casesBackUptoRow : OpenClaim := { program := "ytgadcpbcbbmeaaa", sum := "6fc44d2d6b9d64ee9af41937c1bd27d9f8dd5cc4d95d1857996f524dc6177958", func := "trustflow/trustflowlaw23.CasesBack", spec := "casesBack", inPlace := ["internal/bytealg.abigen_runtime_cmpstring"], unfollowed := true, recurses := true, apart := false, narrowed := true }
def CasesBackUptoSaid : Prop := casesBackUptoRow.holds Try.pinned (OpenSpec.upto casesBackSpec)

/-- 'trustflowlaw23.CasesOrder', WHERE WHAT IT READS IS OF BULK AT MOST 1048576: true; the input reads as it did. -/
def casesOrderUptoRow : OpenClaim := { program := "ytgadcpbcbbmeaaa", sum := "6fc44d2d6b9d64ee9af41937c1bd27d9f8dd5cc4d95d1857996f524dc6177958", func := "trustflow/trustflowlaw23.CasesOrder", spec := "casesOrder", inPlace := ["internal/bytealg.abigen_runtime_cmpstring"], unfollowed := true, recurses := true, apart := false, narrowed := true }
def CasesOrderUptoSaid : Prop := casesOrderUptoRow.holds Try.pinned (OpenSpec.upto casesOrderSpec)

/-- 'trustflowlaw23.CasesApart', WHERE WHAT IT READS IS OF BULK AT MOST 1048576: true; the input reads as it did. -/
def casesApartUptoRow : OpenClaim := { program := "ytgadcpbcbbmeaaa", sum := "6fc44d2d6b9d64ee9af41937c1bd27d9f8dd5cc4d95d1857996f524dc6177958", func := "trustflow/trustflowlaw23.CasesApart", spec := "casesApart", inPlace := ["internal/bytealg.abigen_runtime_cmpstring"], unfollowed := true, recurses := true, apart := false, narrowed := true }
def CasesApartUptoSaid : Prop := casesApartUptoRow.holds Try.pinned (OpenSpec.upto casesApartSpec)

/-- 'trustflowlaw23.CasesForged', WHERE WHAT IT READS IS OF BULK AT MOST 1048576: true; the input reads as it did. -/
def casesForgedUptoRow : OpenClaim := { program := "ytgadcpbcbbmeaaa", sum := "6fc44d2d6b9d64ee9af41937c1bd27d9f8dd5cc4d95d1857996f524dc6177958", func := "trustflow/trustflowlaw23.CasesForged", spec := "casesForged", inPlace := ["internal/bytealg.abigen_runtime_cmpstring"], unfollowed := true, recurses := true, apart := false, narrowed := true }
def CasesForgedUptoSaid : Prop := casesForgedUptoRow.holds Try.pinned (OpenSpec.upto casesForgedSpec)

/-- 'trustflowlaw34.GuardianAll', WHERE WHAT IT READS IS OF BULK AT MOST 1048576: true; the input reads as it did. -/
def guardianAllUptoRow : OpenClaim := { program := "ytgadcpbcbbmeaaa", sum := "6fc44d2d6b9d64ee9af41937c1bd27d9f8dd5cc4d95d1857996f524dc6177958", func := "trustflow/trustflowlaw34.GuardianAll", spec := "guardianAll", unfollowed := true, recurses := true, apart := false, narrowed := true }
def GuardianAllUptoSaid : Prop := guardianAllUptoRow.holds Try.pinned (OpenSpec.upto guardianAllSpec)

/-- 'trustflowlaw34.GuardianLast', WHERE WHAT IT READS IS OF BULK AT MOST 1048576: true; the input reads as it did. -/
def guardianLastUptoRow : OpenClaim := { program := "ytgadcpbcbbmeaaa", sum := "6fc44d2d6b9d64ee9af41937c1bd27d9f8dd5cc4d95d1857996f524dc6177958", func := "trustflow/trustflowlaw34.GuardianLast", spec := "guardianLast", unfollowed := true, recurses := true, apart := false, narrowed := true }
def GuardianLastUptoSaid : Prop := guardianLastUptoRow.holds Try.pinned (OpenSpec.upto guardianLastSpec)

/-- 'trustflowlaw34.GuardianBack', WHERE WHAT IT READS IS OF BULK AT MOST 1048576: true; the input reads as it did. -/
def guardianBackUptoRow : OpenClaim := { program := "ytgadcpbcbbmeaaa", sum := "6fc44d2d6b9d64ee9af41937c1bd27d9f8dd5cc4d95d1857996f524dc6177958", func := "trustflow/trustflowlaw34.GuardianBack", spec := "guardianBack", unfollowed := true, recurses := true, apart := false, narrowed := true }
def GuardianBackUptoSaid : Prop := guardianBackUptoRow.holds Try.pinned (OpenSpec.upto guardianBackSpec)

/-- 'trustflowlaw25.BeaconRules', WHERE WHAT IT READS IS OF BULK AT MOST 1048576: true; the input reads as it did. -/
def beaconRulesUptoRow : OpenClaim := { program := "ytgadcpbcbbmeaaa", sum := "6fc44d2d6b9d64ee9af41937c1bd27d9f8dd5cc4d95d1857996f524dc6177958", func := "trustflow/trustflowlaw25.BeaconRules", spec := "beaconRules", unfollowed := true, recurses := true, apart := false, narrowed := true }
def BeaconRulesUptoSaid : Prop := beaconRulesUptoRow.holds Try.pinned (OpenSpec.upto beaconRulesSpec)

/-- 'trustflowlaw03.StatementRaw', WHERE WHAT IT READS IS OF BULK AT MOST 1048576: true; the input reads as it did. -/
def statementRawUptoRow : OpenClaim := { program := "ytgadcpbcbbmeaaa", sum := "6fc44d2d6b9d64ee9af41937c1bd27d9f8dd5cc4d95d1857996f524dc6177958", func := "trustflow/trustflowlaw03.StatementRaw", spec := "statementRaw", unfollowed := true, recurses := true, apart := false, narrowed := true }
def StatementRawUptoSaid : Prop := statementRawUptoRow.holds Try.pinned (OpenSpec.upto statementRawSpec)

/-- 'trustflowlaw03.StatementMade', WHERE WHAT IT READS IS OF BULK AT MOST 1048576: true; the input reads as it did. -/
def statementMadeUptoRow : OpenClaim := { program := "ytgadcpbcbbmeaaa", sum := "6fc44d2d6b9d64ee9af41937c1bd27d9f8dd5cc4d95d1857996f524dc6177958", func := "trustflow/trustflowlaw03.StatementMade", spec := "statementMade", unfollowed := true, recurses := true, apart := false, narrowed := true }
def StatementMadeUptoSaid : Prop := statementMadeUptoRow.holds Try.pinned (OpenSpec.upto statementMadeSpec)

/-- 'trustflowlaw03.StatementSeals', WHERE WHAT IT READS IS OF BULK AT MOST 1048576: true; the input reads as it did. -/
def statementSealsUptoRow : OpenClaim := { program := "ytgadcpbcbbmeaaa", sum := "6fc44d2d6b9d64ee9af41937c1bd27d9f8dd5cc4d95d1857996f524dc6177958", func := "trustflow/trustflowlaw03.StatementSeals", spec := "statementSeals", unfollowed := true, recurses := true, apart := false, narrowed := true }
def StatementSealsUptoSaid : Prop := statementSealsUptoRow.holds Try.pinned (OpenSpec.upto statementSealsSpec)

/-- 'trustflowlaw25.BeaconChain', WHERE WHAT IT READS IS OF BULK AT MOST 1048576: true; the input reads as it did. -/
def beaconChainUptoRow : OpenClaim := { program := "ytgadcpbcbbmeaaa", sum := "6fc44d2d6b9d64ee9af41937c1bd27d9f8dd5cc4d95d1857996f524dc6177958", func := "trustflow/trustflowlaw25.BeaconChain", spec := "beaconChain", unfollowed := true, recurses := true, apart := false, narrowed := true }
def BeaconChainUptoSaid : Prop := beaconChainUptoRow.holds Try.pinned (OpenSpec.upto beaconChainSpec)

/-- 'trustflowlaw26.CommitteeOf', WHERE WHAT IT READS IS OF BULK AT MOST 1048576: true; the input reads as it did. -/
def committeeOfUptoRow : OpenClaim := { program := "ytgadcpbcbbmeaaa", sum := "6fc44d2d6b9d64ee9af41937c1bd27d9f8dd5cc4d95d1857996f524dc6177958", func := "trustflow/trustflowlaw26.CommitteeOf", spec := "committeeOf", unfollowed := true, recurses := true, apart := false, narrowed := true }
def CommitteeOfUptoSaid : Prop := committeeOfUptoRow.holds Try.pinned (OpenSpec.upto committeeOfSpec)

/-- 'trustflowlaw26.CommitteeApart', WHERE WHAT IT READS IS OF BULK AT MOST 1048576: true; the input reads as it did. -/
def committeeApartUptoRow : OpenClaim := { program := "ytgadcpbcbbmeaaa", sum := "6fc44d2d6b9d64ee9af41937c1bd27d9f8dd5cc4d95d1857996f524dc6177958", func := "trustflow/trustflowlaw26.CommitteeApart", spec := "committeeApart", unfollowed := true, recurses := true, apart := false, narrowed := true }
def CommitteeApartUptoSaid : Prop := committeeApartUptoRow.holds Try.pinned (OpenSpec.upto committeeApartSpec)

/-- 'trustflowlaw01.DigestLong', WHERE WHAT IT READS IS OF BULK AT MOST 1048576: true; the input reads as it did. -/
def digestLongUptoRow : OpenClaim := { program := "ytgadcpbcbbmeaaa", sum := "6fc44d2d6b9d64ee9af41937c1bd27d9f8dd5cc4d95d1857996f524dc6177958", func := "trustflow/trustflowlaw01.DigestLong", spec := "digestLong", unfollowed := true, recurses := true, apart := false, narrowed := true }
def DigestLongUptoSaid : Prop := digestLongUptoRow.holds Try.pinned (OpenSpec.upto digestLongSpec)

end Rows
end Go.Proofs.Ytgadcpbcbbmeaaa
