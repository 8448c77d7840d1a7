/-
  No cell of these rows narrows 'for every input' (looked for: loops, veiled, ifaces, maps, wideKeys, modest, calm, conditions, laid).
  DERIVED. THE GIVEN ROWS OF THIS SEAT. 6 by the template 'for every input the law returns true; each argument reads behind the call as it read before'; 0 by the template 'total and deterministic' (their statements: YteclncnknklkfaaTotals.lean).
  GIVEN WITH THE SEED: the statements are not yours to turn. If you find one false, say at which input.
  Laid BY PROGRAM, IN A SANDBOX (cutbox-rows.mjs): the forced cells as the released guide's own fill.sh prints them over the translation 9caa5fb06c5ca68d… (all of the seat's roots in one cut). By AI agents, Wed Nov 11 2026. No macro, syntax, notation, axiom, sorry.
-/
import Derived.Test.YteclncnknklkfaaChecked
import GoSem.Claim
import GoSem.ClaimJoined
import GoSem.ClaimMapViews
import Derived.JoinedTies
import Derived.KernelRfl
namespace Go.Proofs.Yteclncnknklkfaa
/- THE CELL 'sum', in the pinned program and in every row, IS THE sha256 OF THE DUMP (.gsa) THAT YteclncnknklkfaaProg.lean LOADS. Nothing in Lean hashes anything: it is a label: what it is worth is what the hold of that sum in a sandbox is worth. -/
noncomputable def Try.pinned : Pinned := { name := "yteclncnknklkfaa", sum := "9caa5fb06c5ca68d9dcdcf66b80fb824266d28f414a4a60d3ada9b512409ae0e", checked := Try.checked }
namespace Rows
def none {H : Type} : Left H := { results := [], args := [] }

/-- 'trustflowlaw23.CasesVotes': WHATEVER THE INPUT: true; the input reads as it did. -/
def casesVotesSpec : ChangeSpec := { name := "casesVotes", fn := fun _ => fun
  | [d1, d2] => { results := [.lit (.bool true)], args := [d1, d2] }
  | _ => none }
def casesVotesRow : OpenClaim := { program := "yteclncnknklkfaa", sum := "9caa5fb06c5ca68d9dcdcf66b80fb824266d28f414a4a60d3ada9b512409ae0e", func := "trustflow/trustflowlaw23.CasesVotes", spec := "casesVotes", unfollowed := true, recurses := true, apart := false }
def CasesVotesSaid : Prop := casesVotesRow.holds Try.pinned (OpenSpec.ofChange casesVotesSpec)

/-- ITS FALSE NEIGHBOUR: 'it returns false'. Refute it at one input. -/
def casesVotesWrong : ChangeSpec := { name := "casesVotes", fn := fun _ => fun
  | [d1, d2] => { results := [.lit (.bool false)], args := [d1, d2] }
  | _ => none }
def CasesVotesWrongFalsely : Prop := casesVotesRow.holds Try.pinned (OpenSpec.ofChange casesVotesWrong)

/-- 'trustflowlaw23.CasesRaw': WHATEVER THE INPUT: true; the input reads as it did. -/
def casesRawSpec : ChangeSpec := { name := "casesRaw", fn := fun _ => fun
  | [d1, d2, d3] => { results := [.lit (.bool true)], args := [d1, d2, d3] }
  | _ => none }
def casesRawRow : OpenClaim := { program := "yteclncnknklkfaa", sum := "9caa5fb06c5ca68d9dcdcf66b80fb824266d28f414a4a60d3ada9b512409ae0e", func := "trustflow/trustflowlaw23.CasesRaw", spec := "casesRaw", inPlace := ["internal/bytealg.abigen_runtime_cmpstring"], unfollowed := true, recurses := true, apart := false }
def CasesRawSaid : Prop := casesRawRow.holds Try.pinned (OpenSpec.ofChange casesRawSpec)

/-- ITS FALSE NEIGHBOUR: 'it returns false'. Refute it at one input. -/
def casesRawWrong : ChangeSpec := { name := "casesRaw", fn := fun _ => fun
  | [d1, d2, d3] => { results := [.lit (.bool false)], args := [d1, d2, d3] }
  | _ => none }
def CasesRawWrongFalsely : Prop := casesRawRow.holds Try.pinned (OpenSpec.ofChange casesRawWrong)

/-- 'trustflowlaw23.CasesBack': WHATEVER THE INPUT: true; the input reads as it did. -/
def casesBackSpec : ChangeSpec := { name := "casesBack", fn := fun _ => fun
  | [d1, d2] => { results := [.lit (.bool true)], args := [d1, d2] }
  | _ => none }
def casesBackRow : OpenClaim := { program := "yteclncnknklkfaa", sum := "9caa5fb06c5ca68d9dcdcf66b80fb824266d28f414a4a60d3ada9b512409ae0e", func := "trustflow/trustflowlaw23.CasesBack", spec := "casesBack", inPlace := ["internal/bytealg.abigen_runtime_cmpstring"], unfollowed := true, recurses := true, apart := false }
def CasesBackSaid : Prop := casesBackRow.holds Try.pinned (OpenSpec.ofChange casesBackSpec)

/-- ITS FALSE NEIGHBOUR: 'it returns false'. Refute it at one input. -/
def casesBackWrong : ChangeSpec := { name := "casesBack", fn := fun _ => fun
  | [d1, d2] => { results := [.lit (.bool false)], args := [d1, d2] }
  | _ => none }
def CasesBackWrongFalsely : Prop := casesBackRow.holds Try.pinned (OpenSpec.ofChange casesBackWrong)

/-- 'trustflowlaw23.CasesOrder': WHATEVER THE INPUT: true; the input reads as it did. -/
def casesOrderSpec : ChangeSpec := { name := "casesOrder", fn := fun _ => fun
  | [d] => { results := [.lit (.bool true)], args := [d] }
  | _ => none }
def casesOrderRow : OpenClaim := { program := "yteclncnknklkfaa", sum := "9caa5fb06c5ca68d9dcdcf66b80fb824266d28f414a4a60d3ada9b512409ae0e", func := "trustflow/trustflowlaw23.CasesOrder", spec := "casesOrder", inPlace := ["internal/bytealg.abigen_runtime_cmpstring"], unfollowed := true, recurses := true, apart := false }
def CasesOrderSaid : Prop := casesOrderRow.holds Try.pinned (OpenSpec.ofChange casesOrderSpec)

/-- ITS FALSE NEIGHBOUR: 'it returns false'. Refute it at one input. -/
def casesOrderWrong : ChangeSpec := { name := "casesOrder", fn := fun _ => fun
  | [d] => { results := [.lit (.bool false)], args := [d] }
  | _ => none }
def CasesOrderWrongFalsely : Prop := casesOrderRow.holds Try.pinned (OpenSpec.ofChange casesOrderWrong)

/-- 'trustflowlaw23.CasesApart': WHATEVER THE INPUT: true; the input reads as it did. -/
def casesApartSpec : ChangeSpec := { name := "casesApart", fn := fun _ => fun
  | [d] => { results := [.lit (.bool true)], args := [d] }
  | _ => none }
def casesApartRow : OpenClaim := { program := "yteclncnknklkfaa", sum := "9caa5fb06c5ca68d9dcdcf66b80fb824266d28f414a4a60d3ada9b512409ae0e", func := "trustflow/trustflowlaw23.CasesApart", spec := "casesApart", inPlace := ["internal/bytealg.abigen_runtime_cmpstring"], unfollowed := true, recurses := true, apart := false }
def CasesApartSaid : Prop := casesApartRow.holds Try.pinned (OpenSpec.ofChange casesApartSpec)

/-- ITS FALSE NEIGHBOUR: 'it returns false'. Refute it at one input. -/
def casesApartWrong : ChangeSpec := { name := "casesApart", fn := fun _ => fun
  | [d] => { results := [.lit (.bool false)], args := [d] }
  | _ => none }
def CasesApartWrongFalsely : Prop := casesApartRow.holds Try.pinned (OpenSpec.ofChange casesApartWrong)

/-- 'trustflowlaw23.CasesForged': WHATEVER THE INPUT: true; the input reads as it did. -/
def casesForgedSpec : ChangeSpec := { name := "casesForged", fn := fun _ => fun
  | [d1, d2] => { results := [.lit (.bool true)], args := [d1, d2] }
  | _ => none }
def casesForgedRow : OpenClaim := { program := "yteclncnknklkfaa", sum := "9caa5fb06c5ca68d9dcdcf66b80fb824266d28f414a4a60d3ada9b512409ae0e", func := "trustflow/trustflowlaw23.CasesForged", spec := "casesForged", inPlace := ["internal/bytealg.abigen_runtime_cmpstring"], unfollowed := true, recurses := true, apart := false }
def CasesForgedSaid : Prop := casesForgedRow.holds Try.pinned (OpenSpec.ofChange casesForgedSpec)

/-- ITS FALSE NEIGHBOUR: 'it returns false'. Refute it at one input. -/
def casesForgedWrong : ChangeSpec := { name := "casesForged", fn := fun _ => fun
  | [d1, d2] => { results := [.lit (.bool false)], args := [d1, d2] }
  | _ => none }
def CasesForgedWrongFalsely : Prop := casesForgedRow.holds Try.pinned (OpenSpec.ofChange casesForgedWrong)

/- THE SECOND FORM. 'bulk': how many values and letters a reading holds, each counted each time it is reached (what is shared counts as often as it is met; a slice's spare places count too). A statement '..UptoSaid' is the law's where the arguments, and the package variables that the reading takes, are together of bulk at most 1048576: NARROWER than '..Said'. Prove '..Said' where nothing that the law and all that it calls make is longer than what came in: it says more and counts as full. Else prove '..UptoSaid'. A law counts once. -/
mutual
def uptoBulk {H : Type} : DataW H → Nat
  | .lit (.string bytes) => bytes.length + 1
  | .lit _ => 1
  | .nil => 1
  | .ptr d => uptoBulk d + 1
  | .slice elems spare => uptoBulkAll elems + uptoBulkAll spare + 1
  | .agg parts => uptoBulkAll parts + 1
  | .iface _ d => uptoBulk d + 1
  | .map entries => uptoBulkEntries entries + 1
  | .held _ => 1
def uptoBulkAll {H : Type} : List (DataW H) → Nat
  | [] => 0
  | d :: r => uptoBulk d + uptoBulkAll r
def uptoBulkEntries {H : Type} : List (Lit × DataW H) → Nat
  | [] => 0
  | x :: r => uptoBulkEntry x + uptoBulkEntries r
def uptoBulkEntry {H : Type} : Lit × DataW H → Nat
  | (.string bytes, d) => bytes.length + uptoBulk d + 1
  | (_, d) => uptoBulk d + 1
 end
def uptoSmall : (H : Type) → List (DataW H) → Bool := fun _ ds => decide (uptoBulkAll ds ≤ 1048576)
def OpenSpec.upto (s : _root_.Go.ChangeSpec) : _root_.Go.OpenSpec := { _root_.Go.OpenSpec.ofChange s with cond := some uptoSmall }

/-- 'trustflowlaw23.CasesVotes', WHERE WHAT IT READS IS OF BULK AT MOST 1048576: true; the input reads as it did. -/
def casesVotesUptoRow : OpenClaim := { program := "yteclncnknklkfaa", sum := "9caa5fb06c5ca68d9dcdcf66b80fb824266d28f414a4a60d3ada9b512409ae0e", func := "trustflow/trustflowlaw23.CasesVotes", spec := "casesVotes", unfollowed := true, recurses := true, apart := false, narrowed := true }
def CasesVotesUptoSaid : Prop := casesVotesUptoRow.holds Try.pinned (OpenSpec.upto casesVotesSpec)

/-- 'trustflowlaw23.CasesRaw', WHERE WHAT IT READS IS OF BULK AT MOST 1048576: true; the input reads as it did. -/
def casesRawUptoRow : OpenClaim := { program := "yteclncnknklkfaa", sum := "9caa5fb06c5ca68d9dcdcf66b80fb824266d28f414a4a60d3ada9b512409ae0e", func := "trustflow/trustflowlaw23.CasesRaw", spec := "casesRaw", inPlace := ["internal/bytealg.abigen_runtime_cmpstring"], unfollowed := true, recurses := true, apart := false, narrowed := true }
def CasesRawUptoSaid : Prop := casesRawUptoRow.holds Try.pinned (OpenSpec.upto casesRawSpec)

/-- 'trustflowlaw23.CasesBack', WHERE WHAT IT READS IS OF BULK AT MOST 1048576: true; the input reads as it did. -/
def casesBackUptoRow : OpenClaim := { program := "yteclncnknklkfaa", sum := "9caa5fb06c5ca68d9dcdcf66b80fb824266d28f414a4a60d3ada9b512409ae0e", func := "trustflow/trustflowlaw23.CasesBack", spec := "casesBack", inPlace := ["internal/bytealg.abigen_runtime_cmpstring"], unfollowed := true, recurses := true, apart := false, narrowed := true }
def CasesBackUptoSaid : Prop := casesBackUptoRow.holds Try.pinned (OpenSpec.upto casesBackSpec)

/-- 'trustflowlaw23.CasesOrder', WHERE WHAT IT READS IS OF BULK AT MOST 1048576: true; the input reads as it did. -/
def casesOrderUptoRow : OpenClaim := { program := "yteclncnknklkfaa", sum := "9caa5fb06c5ca68d9dcdcf66b80fb824266d28f414a4a60d3ada9b512409ae0e", func := "trustflow/trustflowlaw23.CasesOrder", spec := "casesOrder", inPlace := ["internal/bytealg.abigen_runtime_cmpstring"], unfollowed := true, recurses := true, apart := false, narrowed := true }
def CasesOrderUptoSaid : Prop := casesOrderUptoRow.holds Try.pinned (OpenSpec.upto casesOrderSpec)

/-- 'trustflowlaw23.CasesApart', WHERE WHAT IT READS IS OF BULK AT MOST 1048576: true; the input reads as it did. -/
def casesApartUptoRow : OpenClaim := { program := "yteclncnknklkfaa", sum := "9caa5fb06c5ca68d9dcdcf66b80fb824266d28f414a4a60d3ada9b512409ae0e", func := "trustflow/trustflowlaw23.CasesApart", spec := "casesApart", inPlace := ["internal/bytealg.abigen_runtime_cmpstring"], unfollowed := true, recurses := true, apart := false, narrowed := true }
def CasesApartUptoSaid : Prop := casesApartUptoRow.holds Try.pinned (OpenSpec.upto casesApartSpec)

/-- 'trustflowlaw23.CasesForged', WHERE WHAT IT READS IS OF BULK AT MOST 1048576: true; the input reads as it did. -/
def casesForgedUptoRow : OpenClaim := { program := "yteclncnknklkfaa", sum := "9caa5fb06c5ca68d9dcdcf66b80fb824266d28f414a4a60d3ada9b512409ae0e", func := "trustflow/trustflowlaw23.CasesForged", spec := "casesForged", inPlace := ["internal/bytealg.abigen_runtime_cmpstring"], unfollowed := true, recurses := true, apart := false, narrowed := true }
def CasesForgedUptoSaid : Prop := casesForgedUptoRow.holds Try.pinned (OpenSpec.upto casesForgedSpec)

end Rows
end Go.Proofs.Yteclncnknklkfaa
