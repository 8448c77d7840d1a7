/-
  No cell of these rows narrows 'for every input' (looked for: loops, veiled, ifaces, maps, wideKeys, modest, calm, conditions, laid).
  DERIVED. THE GIVEN ROWS OF THIS SEAT. 15 by the template 'for every input the law returns true; each argument reads behind the call as it read before'; 0 by the template 'total and deterministic' (their statements: YtocmgnljgemjkaaTotals.lean).
  GIVEN WITH THE SEED: the statements are not yours to turn. If you find one false, say at which input.
  Laid BY PROGRAM, IN A SANDBOX (cutbox-rows.mjs): the forced cells as the released guide's own fill.sh prints them over the translation 0729a392477fa626… (all of the seat's roots in one cut). By AI agents, Wed Nov 11 2026. No macro, syntax, notation, axiom, sorry.
-/
import Derived.Test.YtocmgnljgemjkaaChecked
import GoSem.Claim
import GoSem.ClaimJoined
import GoSem.ClaimMapViews
import Derived.JoinedTies
import Derived.KernelRfl
namespace Go.Proofs.Ytocmgnljgemjkaa
/- THE CELL 'sum', in the pinned program and in every row, IS THE sha256 OF THE DUMP (.gsa) THAT YtocmgnljgemjkaaProg.lean LOADS. Nothing in Lean hashes anything: it is a label: what it is worth is what the hold of that sum in a sandbox is worth. -/
noncomputable def Try.pinned : Pinned := { name := "ytocmgnljgemjkaa", sum := "0729a392477fa6260acf687f916618e458ac35d8448562f8ddae99eb32eb4f08", checked := Try.checked }
namespace Rows
def none {H : Type} : Left H := { results := [], args := [] }

/-- 'trustflowlaw34.GuardianNeed': WHATEVER THE INPUT: true; the input reads as it did. -/
def guardianNeedSpec : ChangeSpec := { name := "guardianNeed", fn := fun _ => fun
  | [d] => { results := [.lit (.bool true)], args := [d] }
  | _ => none }
def guardianNeedRow : OpenClaim := { program := "ytocmgnljgemjkaa", sum := "0729a392477fa6260acf687f916618e458ac35d8448562f8ddae99eb32eb4f08", func := "trustflow/trustflowlaw34.GuardianNeed", spec := "guardianNeed", apart := false }
def GuardianNeedSaid : Prop := guardianNeedRow.holds Try.pinned (OpenSpec.ofChange guardianNeedSpec)

/-- ITS FALSE NEIGHBOUR: 'it returns false'. Refute it at one input. -/
def guardianNeedWrong : ChangeSpec := { name := "guardianNeed", fn := fun _ => fun
  | [d] => { results := [.lit (.bool false)], args := [d] }
  | _ => none }
def GuardianNeedWrongFalsely : Prop := guardianNeedRow.holds Try.pinned (OpenSpec.ofChange guardianNeedWrong)

/-- 'trustflowlaw02.WireWrites': WHATEVER THE INPUT: true; the input reads as it did. -/
def wireWritesSpec : ChangeSpec := { name := "wireWrites", fn := fun _ => fun
  | [d1, d2, d3] => { results := [.lit (.bool true)], args := [d1, d2, d3] }
  | _ => none }
def wireWritesRow : OpenClaim := { program := "ytocmgnljgemjkaa", sum := "0729a392477fa6260acf687f916618e458ac35d8448562f8ddae99eb32eb4f08", func := "trustflow/trustflowlaw02.WireWrites", spec := "wireWrites", apart := false }
def WireWritesSaid : Prop := wireWritesRow.holds Try.pinned (OpenSpec.ofChange wireWritesSpec)

/-- ITS FALSE NEIGHBOUR: 'it returns false'. Refute it at one input. -/
def wireWritesWrong : ChangeSpec := { name := "wireWrites", fn := fun _ => fun
  | [d1, d2, d3] => { results := [.lit (.bool false)], args := [d1, d2, d3] }
  | _ => none }
def WireWritesWrongFalsely : Prop := wireWritesRow.holds Try.pinned (OpenSpec.ofChange wireWritesWrong)

/-- 'trustflowlaw02.WireApart': WHATEVER THE INPUT: true; the input reads as it did. -/
def wireApartSpec : ChangeSpec := { name := "wireApart", fn := fun _ => fun
  | [d1, d2] => { results := [.lit (.bool true)], args := [d1, d2] }
  | _ => none }
def wireApartRow : OpenClaim := { program := "ytocmgnljgemjkaa", sum := "0729a392477fa6260acf687f916618e458ac35d8448562f8ddae99eb32eb4f08", func := "trustflow/trustflowlaw02.WireApart", spec := "wireApart", apart := false }
def WireApartSaid : Prop := wireApartRow.holds Try.pinned (OpenSpec.ofChange wireApartSpec)

/-- ITS FALSE NEIGHBOUR: 'it returns false'. Refute it at one input. -/
def wireApartWrong : ChangeSpec := { name := "wireApart", fn := fun _ => fun
  | [d1, d2] => { results := [.lit (.bool false)], args := [d1, d2] }
  | _ => none }
def WireApartWrongFalsely : Prop := wireApartRow.holds Try.pinned (OpenSpec.ofChange wireApartWrong)

/-- 'trustflowlaw34.GuardianRaw': WHATEVER THE INPUT: true; the input reads as it did. -/
def guardianRawSpec : ChangeSpec := { name := "guardianRaw", fn := fun _ => fun
  | [d1, d2, d3] => { results := [.lit (.bool true)], args := [d1, d2, d3] }
  | _ => none }
def guardianRawRow : OpenClaim := { program := "ytocmgnljgemjkaa", sum := "0729a392477fa6260acf687f916618e458ac35d8448562f8ddae99eb32eb4f08", func := "trustflow/trustflowlaw34.GuardianRaw", spec := "guardianRaw", apart := false }
def GuardianRawSaid : Prop := guardianRawRow.holds Try.pinned (OpenSpec.ofChange guardianRawSpec)

/-- ITS FALSE NEIGHBOUR: 'it returns false'. Refute it at one input. -/
def guardianRawWrong : ChangeSpec := { name := "guardianRaw", fn := fun _ => fun
  | [d1, d2, d3] => { results := [.lit (.bool false)], args := [d1, d2, d3] }
  | _ => none }
def GuardianRawWrongFalsely : Prop := guardianRawRow.holds Try.pinned (OpenSpec.ofChange guardianRawWrong)

/-- 'trustflowlaw02.WireTakes': WHATEVER THE INPUT: true; the input reads as it did. -/
def wireTakesSpec : ChangeSpec := { name := "wireTakes", fn := fun _ => fun
  | [d1, d2, d3] => { results := [.lit (.bool true)], args := [d1, d2, d3] }
  | _ => none }
def wireTakesRow : OpenClaim := { program := "ytocmgnljgemjkaa", sum := "0729a392477fa6260acf687f916618e458ac35d8448562f8ddae99eb32eb4f08", func := "trustflow/trustflowlaw02.WireTakes", spec := "wireTakes", apart := false }
def WireTakesSaid : Prop := wireTakesRow.holds Try.pinned (OpenSpec.ofChange wireTakesSpec)

/-- ITS FALSE NEIGHBOUR: 'it returns false'. Refute it at one input. -/
def wireTakesWrong : ChangeSpec := { name := "wireTakes", fn := fun _ => fun
  | [d1, d2, d3] => { results := [.lit (.bool false)], args := [d1, d2, d3] }
  | _ => none }
def WireTakesWrongFalsely : Prop := wireTakesRow.holds Try.pinned (OpenSpec.ofChange wireTakesWrong)

/-- 'trustflowlaw24.RosterNumbers': WHATEVER THE INPUT: true; the input reads as it did. -/
def rosterNumbersSpec : ChangeSpec := { name := "rosterNumbers", fn := fun _ => fun
  | [d1, d2] => { results := [.lit (.bool true)], args := [d1, d2] }
  | _ => none }
def rosterNumbersRow : OpenClaim := { program := "ytocmgnljgemjkaa", sum := "0729a392477fa6260acf687f916618e458ac35d8448562f8ddae99eb32eb4f08", func := "trustflow/trustflowlaw24.RosterNumbers", spec := "rosterNumbers", unfollowed := true, recurses := true, apart := false }
def RosterNumbersSaid : Prop := rosterNumbersRow.holds Try.pinned (OpenSpec.ofChange rosterNumbersSpec)

/-- ITS FALSE NEIGHBOUR: 'it returns false'. Refute it at one input. -/
def rosterNumbersWrong : ChangeSpec := { name := "rosterNumbers", fn := fun _ => fun
  | [d1, d2] => { results := [.lit (.bool false)], args := [d1, d2] }
  | _ => none }
def RosterNumbersWrongFalsely : Prop := rosterNumbersRow.holds Try.pinned (OpenSpec.ofChange rosterNumbersWrong)

/-- 'trustflowlaw26.CommitteeEvenly': WHATEVER THE INPUT: true; the input reads as it did. -/
def committeeEvenlySpec : ChangeSpec := { name := "committeeEvenly", fn := fun _ => fun
  | [d1, d2] => { results := [.lit (.bool true)], args := [d1, d2] }
  | _ => none }
def committeeEvenlyRow : OpenClaim := { program := "ytocmgnljgemjkaa", sum := "0729a392477fa6260acf687f916618e458ac35d8448562f8ddae99eb32eb4f08", func := "trustflow/trustflowlaw26.CommitteeEvenly", spec := "committeeEvenly", apart := false }
def CommitteeEvenlySaid : Prop := committeeEvenlyRow.holds Try.pinned (OpenSpec.ofChange committeeEvenlySpec)

/-- ITS FALSE NEIGHBOUR: 'it returns false'. Refute it at one input. -/
def committeeEvenlyWrong : ChangeSpec := { name := "committeeEvenly", fn := fun _ => fun
  | [d1, d2] => { results := [.lit (.bool false)], args := [d1, d2] }
  | _ => none }
def CommitteeEvenlyWrongFalsely : Prop := committeeEvenlyRow.holds Try.pinned (OpenSpec.ofChange committeeEvenlyWrong)

/-- 'trustflowlaw26.CommitteeFewer': WHATEVER THE INPUT: true; the input reads as it did. -/
def committeeFewerSpec : ChangeSpec := { name := "committeeFewer", fn := fun _ => fun
  | [d1, d2, d3] => { results := [.lit (.bool true)], args := [d1, d2, d3] }
  | _ => none }
def committeeFewerRow : OpenClaim := { program := "ytocmgnljgemjkaa", sum := "0729a392477fa6260acf687f916618e458ac35d8448562f8ddae99eb32eb4f08", func := "trustflow/trustflowlaw26.CommitteeFewer", spec := "committeeFewer", apart := false }
def CommitteeFewerSaid : Prop := committeeFewerRow.holds Try.pinned (OpenSpec.ofChange committeeFewerSpec)

/-- ITS FALSE NEIGHBOUR: 'it returns false'. Refute it at one input. -/
def committeeFewerWrong : ChangeSpec := { name := "committeeFewer", fn := fun _ => fun
  | [d1, d2, d3] => { results := [.lit (.bool false)], args := [d1, d2, d3] }
  | _ => none }
def CommitteeFewerWrongFalsely : Prop := committeeFewerRow.holds Try.pinned (OpenSpec.ofChange committeeFewerWrong)

/-- 'trustflowlaw02.WireBack': WHATEVER THE INPUT: true; the input reads as it did. -/
def wireBackSpec : ChangeSpec := { name := "wireBack", fn := fun _ => fun
  | [d1, d2, d3] => { results := [.lit (.bool true)], args := [d1, d2, d3] }
  | _ => none }
def wireBackRow : OpenClaim := { program := "ytocmgnljgemjkaa", sum := "0729a392477fa6260acf687f916618e458ac35d8448562f8ddae99eb32eb4f08", func := "trustflow/trustflowlaw02.WireBack", spec := "wireBack", apart := false }
def WireBackSaid : Prop := wireBackRow.holds Try.pinned (OpenSpec.ofChange wireBackSpec)

/-- ITS FALSE NEIGHBOUR: 'it returns false'. Refute it at one input. -/
def wireBackWrong : ChangeSpec := { name := "wireBack", fn := fun _ => fun
  | [d1, d2, d3] => { results := [.lit (.bool false)], args := [d1, d2, d3] }
  | _ => none }
def WireBackWrongFalsely : Prop := wireBackRow.holds Try.pinned (OpenSpec.ofChange wireBackWrong)

/-- 'trustflowlaw26.CommitteeDraws': WHATEVER THE INPUT: true; the input reads as it did. -/
def committeeDrawsSpec : ChangeSpec := { name := "committeeDraws", fn := fun _ => fun
  | [d1, d2, d3, d4] => { results := [.lit (.bool true)], args := [d1, d2, d3, d4] }
  | _ => none }
def committeeDrawsRow : OpenClaim := { program := "ytocmgnljgemjkaa", sum := "0729a392477fa6260acf687f916618e458ac35d8448562f8ddae99eb32eb4f08", func := "trustflow/trustflowlaw26.CommitteeDraws", spec := "committeeDraws", apart := false }
def CommitteeDrawsSaid : Prop := committeeDrawsRow.holds Try.pinned (OpenSpec.ofChange committeeDrawsSpec)

/-- ITS FALSE NEIGHBOUR: 'it returns false'. Refute it at one input. -/
def committeeDrawsWrong : ChangeSpec := { name := "committeeDraws", fn := fun _ => fun
  | [d1, d2, d3, d4] => { results := [.lit (.bool false)], args := [d1, d2, d3, d4] }
  | _ => none }
def CommitteeDrawsWrongFalsely : Prop := committeeDrawsRow.holds Try.pinned (OpenSpec.ofChange committeeDrawsWrong)

/-- 'trustflowlaw26.CommitteeMajority': WHATEVER THE INPUT: true; the input reads as it did. -/
def committeeMajoritySpec : ChangeSpec := { name := "committeeMajority", fn := fun _ => fun
  | [d1, d2, d3] => { results := [.lit (.bool true)], args := [d1, d2, d3] }
  | _ => none }
def committeeMajorityRow : OpenClaim := { program := "ytocmgnljgemjkaa", sum := "0729a392477fa6260acf687f916618e458ac35d8448562f8ddae99eb32eb4f08", func := "trustflow/trustflowlaw26.CommitteeMajority", spec := "committeeMajority", apart := false }
def CommitteeMajoritySaid : Prop := committeeMajorityRow.holds Try.pinned (OpenSpec.ofChange committeeMajoritySpec)

/-- ITS FALSE NEIGHBOUR: 'it returns false'. Refute it at one input. -/
def committeeMajorityWrong : ChangeSpec := { name := "committeeMajority", fn := fun _ => fun
  | [d1, d2, d3] => { results := [.lit (.bool false)], args := [d1, d2, d3] }
  | _ => none }
def CommitteeMajorityWrongFalsely : Prop := committeeMajorityRow.holds Try.pinned (OpenSpec.ofChange committeeMajorityWrong)

/-- 'trustflowlaw01.DigestLong': WHATEVER THE INPUT: true; the input reads as it did. -/
def digestLongSpec : ChangeSpec := { name := "digestLong", fn := fun _ => fun
  | [d1, d2] => { results := [.lit (.bool true)], args := [d1, d2] }
  | _ => none }
def digestLongRow : OpenClaim := { program := "ytocmgnljgemjkaa", sum := "0729a392477fa6260acf687f916618e458ac35d8448562f8ddae99eb32eb4f08", func := "trustflow/trustflowlaw01.DigestLong", spec := "digestLong", unfollowed := true, recurses := true, apart := false }
def DigestLongSaid : Prop := digestLongRow.holds Try.pinned (OpenSpec.ofChange digestLongSpec)

/-- ITS FALSE NEIGHBOUR: 'it returns false'. Refute it at one input. -/
def digestLongWrong : ChangeSpec := { name := "digestLong", fn := fun _ => fun
  | [d1, d2] => { results := [.lit (.bool false)], args := [d1, d2] }
  | _ => none }
def DigestLongWrongFalsely : Prop := digestLongRow.holds Try.pinned (OpenSpec.ofChange digestLongWrong)

/-- 'trustflowlaw24.RosterSets': WHATEVER THE INPUT: true; the input reads as it did. -/
def rosterSetsSpec : ChangeSpec := { name := "rosterSets", fn := fun _ => fun
  | [d1, d2, d3] => { results := [.lit (.bool true)], args := [d1, d2, d3] }
  | _ => none }
def rosterSetsRow : OpenClaim := { program := "ytocmgnljgemjkaa", sum := "0729a392477fa6260acf687f916618e458ac35d8448562f8ddae99eb32eb4f08", func := "trustflow/trustflowlaw24.RosterSets", spec := "rosterSets", unfollowed := true, recurses := true, apart := false }
def RosterSetsSaid : Prop := rosterSetsRow.holds Try.pinned (OpenSpec.ofChange rosterSetsSpec)

/-- ITS FALSE NEIGHBOUR: 'it returns false'. Refute it at one input. -/
def rosterSetsWrong : ChangeSpec := { name := "rosterSets", fn := fun _ => fun
  | [d1, d2, d3] => { results := [.lit (.bool false)], args := [d1, d2, d3] }
  | _ => none }
def RosterSetsWrongFalsely : Prop := rosterSetsRow.holds Try.pinned (OpenSpec.ofChange rosterSetsWrong)

/-- 'trustflowlaw24.RosterRaw': WHATEVER THE INPUT: true; the input reads as it did. -/
def rosterRawSpec : ChangeSpec := { name := "rosterRaw", fn := fun _ => fun
  | [d1, d2, d3] => { results := [.lit (.bool true)], args := [d1, d2, d3] }
  | _ => none }
def rosterRawRow : OpenClaim := { program := "ytocmgnljgemjkaa", sum := "0729a392477fa6260acf687f916618e458ac35d8448562f8ddae99eb32eb4f08", func := "trustflow/trustflowlaw24.RosterRaw", spec := "rosterRaw", unfollowed := true, recurses := true, apart := false }
def RosterRawSaid : Prop := rosterRawRow.holds Try.pinned (OpenSpec.ofChange rosterRawSpec)

/-- ITS FALSE NEIGHBOUR: 'it returns false'. Refute it at one input. -/
def rosterRawWrong : ChangeSpec := { name := "rosterRaw", fn := fun _ => fun
  | [d1, d2, d3] => { results := [.lit (.bool false)], args := [d1, d2, d3] }
  | _ => none }
def RosterRawWrongFalsely : Prop := rosterRawRow.holds Try.pinned (OpenSpec.ofChange rosterRawWrong)

/-- 'trustflowlaw24.RosterBack': WHATEVER THE INPUT: true; the input reads as it did. -/
def rosterBackSpec : ChangeSpec := { name := "rosterBack", fn := fun _ => fun
  | [d1, d2] => { results := [.lit (.bool true)], args := [d1, d2] }
  | _ => none }
def rosterBackRow : OpenClaim := { program := "ytocmgnljgemjkaa", sum := "0729a392477fa6260acf687f916618e458ac35d8448562f8ddae99eb32eb4f08", func := "trustflow/trustflowlaw24.RosterBack", spec := "rosterBack", unfollowed := true, recurses := true, apart := false }
def RosterBackSaid : Prop := rosterBackRow.holds Try.pinned (OpenSpec.ofChange rosterBackSpec)

/-- ITS FALSE NEIGHBOUR: 'it returns false'. Refute it at one input. -/
def rosterBackWrong : ChangeSpec := { name := "rosterBack", fn := fun _ => fun
  | [d1, d2] => { results := [.lit (.bool false)], args := [d1, d2] }
  | _ => none }
def RosterBackWrongFalsely : Prop := rosterBackRow.holds Try.pinned (OpenSpec.ofChange rosterBackWrong)

/- THE SECOND FORM. 'bulk': how many values and letters a reading holds, each counted each time it is reached (what is shared counts as often as it is met; a slice's spare places count too). A statement '..UptoSaid' is the law's where the arguments, and the package variables that the reading takes, are together of bulk at most 1048576: NARROWER than '..Said'. Prove '..Said' where nothing that the law and all that it calls make is longer than what came in: it says more and counts as full. Else prove '..UptoSaid'. A law counts once. -/
mutual
def uptoBulk {H : Type} : DataW H → Nat
  | .lit (.string bytes) => bytes.length + 1
  | .lit _ => 1
  | .nil => 1
  | .ptr d => uptoBulk d + 1
  | .slice elems spare => uptoBulkAll elems + uptoBulkAll spare + 1
  | .agg parts => uptoBulkAll parts + 1
  | .iface _ d => uptoBulk d + 1
  | .map entries => uptoBulkEntries entries + 1
  | .held _ => 1
def uptoBulkAll {H : Type} : List (DataW H) → Nat
  | [] => 0
  | d :: r => uptoBulk d + uptoBulkAll r
def uptoBulkEntries {H : Type} : List (Lit × DataW H) → Nat
  | [] => 0
  | x :: r => uptoBulkEntry x + uptoBulkEntries r
def uptoBulkEntry {H : Type} : Lit × DataW H → Nat
  | (.string bytes, d) => bytes.length + uptoBulk d + 1
  | (_, d) => uptoBulk d + 1
 end
def uptoSmall : (H : Type) → List (DataW H) → Bool := fun _ ds => decide (uptoBulkAll ds ≤ 1048576)
def OpenSpec.upto (s : _root_.Go.ChangeSpec) : _root_.Go.OpenSpec := { _root_.Go.OpenSpec.ofChange s with cond := some uptoSmall }

/-- 'trustflowlaw34.GuardianNeed', WHERE WHAT IT READS IS OF BULK AT MOST 1048576: true; the input reads as it did. -/
def guardianNeedUptoRow : OpenClaim := { program := "ytocmgnljgemjkaa", sum := "0729a392477fa6260acf687f916618e458ac35d8448562f8ddae99eb32eb4f08", func := "trustflow/trustflowlaw34.GuardianNeed", spec := "guardianNeed", apart := false, narrowed := true }
def GuardianNeedUptoSaid : Prop := guardianNeedUptoRow.holds Try.pinned (OpenSpec.upto guardianNeedSpec)

/-- 'trustflowlaw02.WireWrites', WHERE WHAT IT READS IS OF BULK AT MOST 1048576: true; the input reads as it did. -/
def wireWritesUptoRow : OpenClaim := { program := "ytocmgnljgemjkaa", sum := "0729a392477fa6260acf687f916618e458ac35d8448562f8ddae99eb32eb4f08", func := "trustflow/trustflowlaw02.WireWrites", spec := "wireWrites", apart := false, narrowed := true }
def WireWritesUptoSaid : Prop := wireWritesUptoRow.holds Try.pinned (OpenSpec.upto wireWritesSpec)

/-- 'trustflowlaw02.WireApart', WHERE WHAT IT READS IS OF BULK AT MOST 1048576: true; the input reads as it did. -/
def wireApartUptoRow : OpenClaim := { program := "ytocmgnljgemjkaa", sum := "0729a392477fa6260acf687f916618e458ac35d8448562f8ddae99eb32eb4f08", func := "trustflow/trustflowlaw02.WireApart", spec := "wireApart", apart := false, narrowed := true }
def WireApartUptoSaid : Prop := wireApartUptoRow.holds Try.pinned (OpenSpec.upto wireApartSpec)

/-- 'trustflowlaw34.GuardianRaw', WHERE WHAT IT READS IS OF BULK AT MOST 1048576: true; the input reads as it did. -/
def guardianRawUptoRow : OpenClaim := { program := "ytocmgnljgemjkaa", sum := "0729a392477fa6260acf687f916618e458ac35d8448562f8ddae99eb32eb4f08", func := "trustflow/trustflowlaw34.GuardianRaw", spec := "guardianRaw", apart := false, narrowed := true }
def GuardianRawUptoSaid : Prop := guardianRawUptoRow.holds Try.pinned (OpenSpec.upto guardianRawSpec)

/-- 'trustflowlaw02.WireTakes', WHERE WHAT IT READS IS OF BULK AT MOST 1048576: true; the input reads as it did. -/
def wireTakesUptoRow : OpenClaim := { program := "ytocmgnljgemjkaa", sum := "0729a392477fa6260acf687f916618e458ac35d8448562f8ddae99eb32eb4f08", func := "trustflow/trustflowlaw02.WireTakes", spec := "wireTakes", apart := false, narrowed := true }
def WireTakesUptoSaid : Prop := wireTakesUptoRow.holds Try.pinned (OpenSpec.upto wireTakesSpec)

/-- 'trustflowlaw24.RosterNumbers', WHERE WHAT IT READS IS OF BULK AT MOST 1048576: true; the input reads as it did. -/
def rosterNumbersUptoRow : OpenClaim := { program := "ytocmgnljgemjkaa", sum := "0729a392477fa6260acf687f916618e458ac35d8448562f8ddae99eb32eb4f08", func := "trustflow/trustflowlaw24.RosterNumbers", spec := "rosterNumbers", unfollowed := true, recurses := true, apart := false, narrowed := true }
def RosterNumbersUptoSaid : Prop := rosterNumbersUptoRow.holds Try.pinned (OpenSpec.upto rosterNumbersSpec)

/-- 'trustflowlaw26.CommitteeEvenly', WHERE WHAT IT READS IS OF BULK AT MOST 1048576: true; the input reads as it did. -/
def committeeEvenlyUptoRow : OpenClaim := { program := "ytocmgnljgemjkaa", sum := "0729a392477fa6260acf687f916618e458ac35d8448562f8ddae99eb32eb4f08", func := "trustflow/trustflowlaw26.CommitteeEvenly", spec := "committeeEvenly", apart := false, narrowed := true }
def CommitteeEvenlyUptoSaid : Prop := committeeEvenlyUptoRow.holds Try.pinned (OpenSpec.upto committeeEvenlySpec)

/-- 'trustflowlaw26.CommitteeFewer', WHERE WHAT IT READS IS OF BULK AT MOST 1048576: true; the input reads as it did. -/
def committeeFewerUptoRow : OpenClaim := { program := "ytocmgnljgemjkaa", sum := "0729a392477fa6260acf687f916618e458ac35d8448562f8ddae99eb32eb4f08", func := "trustflow/trustflowlaw26.CommitteeFewer", spec := "committeeFewer", apart := false, narrowed := true }
def CommitteeFewerUptoSaid : Prop := committeeFewerUptoRow.holds Try.pinned (OpenSpec.upto committeeFewerSpec)

/-- 'trustflowlaw02.WireBack', WHERE WHAT IT READS IS OF BULK AT MOST 1048576: true; the input reads as it did. -/
def wireBackUptoRow : OpenClaim := { program := "ytocmgnljgemjkaa", sum := "0729a392477fa6260acf687f916618e458ac35d8448562f8ddae99eb32eb4f08", func := "trustflow/trustflowlaw02.WireBack", spec := "wireBack", apart := false, narrowed := true }
def WireBackUptoSaid : Prop := wireBackUptoRow.holds Try.pinned (OpenSpec.upto wireBackSpec)

/-- 'trustflowlaw26.CommitteeDraws', WHERE WHAT IT READS IS OF BULK AT MOST 1048576: true; the input reads as it did. -/
def committeeDrawsUptoRow : OpenClaim := { program := "ytocmgnljgemjkaa", sum := "0729a392477fa6260acf687f916618e458ac35d8448562f8ddae99eb32eb4f08", func := "trustflow/trustflowlaw26.CommitteeDraws", spec := "committeeDraws", apart := false, narrowed := true }
def CommitteeDrawsUptoSaid : Prop := committeeDrawsUptoRow.holds Try.pinned (OpenSpec.upto committeeDrawsSpec)

/-- 'trustflowlaw26.CommitteeMajority', WHERE WHAT IT READS IS OF BULK AT MOST 1048576: true; the input reads as it did. -/
def committeeMajorityUptoRow : OpenClaim := { program := "ytocmgnljgemjkaa", sum := "0729a392477fa6260acf687f916618e458ac35d8448562f8ddae99eb32eb4f08", func := "trustflow/trustflowlaw26.CommitteeMajority", spec := "committeeMajority", apart := false, narrowed := true }
def CommitteeMajorityUptoSaid : Prop := committeeMajorityUptoRow.holds Try.pinned (OpenSpec.upto committeeMajoritySpec)

/-- 'trustflowlaw01.DigestLong', WHERE WHAT IT READS IS OF BULK AT MOST 1048576: true; the input reads as it did. -/
def digestLongUptoRow : OpenClaim := { program := "ytocmgnljgemjkaa", sum := "0729a392477fa6260acf687f916618e458ac35d8448562f8ddae99eb32eb4f08", func := "trustflow/trustflowlaw01.DigestLong", spec := "digestLong", unfollowed := true, recurses := true, apart := false, narrowed := true }
def DigestLongUptoSaid : Prop := digestLongUptoRow.holds Try.pinned (OpenSpec.upto digestLongSpec)

/-- 'trustflowlaw24.RosterSets', WHERE WHAT IT READS IS OF BULK AT MOST 1048576: true; the input reads as it did. -/
def rosterSetsUptoRow : OpenClaim := { program := "ytocmgnljgemjkaa", sum := "0729a392477fa6260acf687f916618e458ac35d8448562f8ddae99eb32eb4f08", func := "trustflow/trustflowlaw24.RosterSets", spec := "rosterSets", unfollowed := true, recurses := true, apart := false, narrowed := true }
def RosterSetsUptoSaid : Prop := rosterSetsUptoRow.holds Try.pinned (OpenSpec.upto rosterSetsSpec)

/-- 'trustflowlaw24.RosterRaw', WHERE WHAT IT READS IS OF BULK AT MOST 1048576: true; the input reads as it did. -/
def rosterRawUptoRow : OpenClaim := { program := "ytocmgnljgemjkaa", sum := "0729a392477fa6260acf687f916618e458ac35d8448562f8ddae99eb32eb4f08", func := "trustflow/trustflowlaw24.RosterRaw", spec := "rosterRaw", unfollowed := true, recurses := true, apart := false, narrowed := true }
def RosterRawUptoSaid : Prop := rosterRawUptoRow.holds Try.pinned (OpenSpec.upto rosterRawSpec)

/-- 'trustflowlaw24.RosterBack', WHERE WHAT IT READS IS OF BULK AT MOST 1048576: true; the input reads as it did. -/
def rosterBackUptoRow : OpenClaim := { program := "ytocmgnljgemjkaa", sum := "0729a392477fa6260acf687f916618e458ac35d8448562f8ddae99eb32eb4f08", func := "trustflow/trustflowlaw24.RosterBack", spec := "rosterBack", unfollowed := true, recurses := true, apart := false, narrowed := true }
def RosterBackUptoSaid : Prop := rosterBackUptoRow.holds Try.pinned (OpenSpec.upto rosterBackSpec)

end Rows
end Go.Proofs.Ytocmgnljgemjkaa
