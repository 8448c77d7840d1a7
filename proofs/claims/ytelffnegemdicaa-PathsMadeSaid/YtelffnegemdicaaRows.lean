/-
  No cell of these rows narrows 'for every input' (looked for: loops, veiled, ifaces, maps, wideKeys, modest, calm, conditions, laid).
  DERIVED. THE GIVEN ROWS OF THIS SEAT. 6 by the template 'for every input the law returns true; each argument reads behind the call as it read before'; 0 by the template 'total and deterministic' (their statements: YtelffnegemdicaaTotals.lean).
  GIVEN WITH THE SEED: the statements are not yours to turn. If you find one false, say at which input.
  Laid BY PROGRAM, IN A SANDBOX (cutbox-rows.mjs): the forced cells as the released guide's own fill.sh prints them over the translation 3701a8b0a3dce71c… (all of the seat's roots in one cut). By AI agents, Wed Nov 11 2026. No macro, syntax, notation, axiom, sorry.
-/
import Derived.Test.YtelffnegemdicaaChecked
import GoSem.Claim
import GoSem.ClaimJoined
import GoSem.ClaimMapViews
import Derived.JoinedTies
import Derived.KernelRfl
namespace Go.Proofs.Ytelffnegemdicaa
/- THE CELL 'sum', in the pinned program and in every row, IS THE sha256 OF THE DUMP (.gsa) THAT YtelffnegemdicaaProg.lean LOADS. Nothing in Lean hashes anything: it is a label: what it is worth is what the hold of that sum in a sandbox is worth. -/
noncomputable def Try.pinned : Pinned := { name := "ytelffnegemdicaa", sum := "3701a8b0a3dce71c826e8e8b343a497f8a4d5912fe06e7040ce0595dce27f548", checked := Try.checked }
namespace Rows
def none {H : Type} : Left H := { results := [], args := [] }

/-- 'trustflowlaw15.FlowServes': WHATEVER THE INPUT: true; the input reads as it did. -/
def flowServesSpec : ChangeSpec := { name := "flowServes", fn := fun _ => fun
  | [d] => { results := [.lit (.bool true)], args := [d] }
  | _ => none }
def flowServesRow : OpenClaim := { program := "ytelffnegemdicaa", sum := "3701a8b0a3dce71c826e8e8b343a497f8a4d5912fe06e7040ce0595dce27f548", func := "trustflow/trustflowlaw15.FlowServes", spec := "flowServes", unfollowed := true, recurses := true, apart := false }
def FlowServesSaid : Prop := flowServesRow.holds Try.pinned (OpenSpec.ofChange flowServesSpec)

/-- ITS FALSE NEIGHBOUR: 'it returns false'. Refute it at one input. -/
def flowServesWrong : ChangeSpec := { name := "flowServes", fn := fun _ => fun
  | [d] => { results := [.lit (.bool false)], args := [d] }
  | _ => none }
def FlowServesWrongFalsely : Prop := flowServesRow.holds Try.pinned (OpenSpec.ofChange flowServesWrong)

/-- 'trustflowlaw15.FlowFewer': WHATEVER THE INPUT: true; the input reads as it did. -/
def flowFewerSpec : ChangeSpec := { name := "flowFewer", fn := fun _ => fun
  | [d] => { results := [.lit (.bool true)], args := [d] }
  | _ => none }
def flowFewerRow : OpenClaim := { program := "ytelffnegemdicaa", sum := "3701a8b0a3dce71c826e8e8b343a497f8a4d5912fe06e7040ce0595dce27f548", func := "trustflow/trustflowlaw15.FlowFewer", spec := "flowFewer", unfollowed := true, recurses := true, apart := false }
def FlowFewerSaid : Prop := flowFewerRow.holds Try.pinned (OpenSpec.ofChange flowFewerSpec)

/-- ITS FALSE NEIGHBOUR: 'it returns false'. Refute it at one input. -/
def flowFewerWrong : ChangeSpec := { name := "flowFewer", fn := fun _ => fun
  | [d] => { results := [.lit (.bool false)], args := [d] }
  | _ => none }
def FlowFewerWrongFalsely : Prop := flowFewerRow.holds Try.pinned (OpenSpec.ofChange flowFewerWrong)

/-- 'trustflowlaw19.PathsMade': WHATEVER THE INPUT: true; the input reads as it did. -/
def pathsMadeSpec : ChangeSpec := { name := "pathsMade", fn := fun _ => fun
  | [d1, d2] => { results := [.lit (.bool true)], args := [d1, d2] }
  | _ => none }
def pathsMadeRow : OpenClaim := { program := "ytelffnegemdicaa", sum := "3701a8b0a3dce71c826e8e8b343a497f8a4d5912fe06e7040ce0595dce27f548", func := "trustflow/trustflowlaw19.PathsMade", spec := "pathsMade", unfollowed := true, recurses := true, apart := false }
def PathsMadeSaid : Prop := pathsMadeRow.holds Try.pinned (OpenSpec.ofChange pathsMadeSpec)

/-- ITS FALSE NEIGHBOUR: 'it returns false'. Refute it at one input. -/
def pathsMadeWrong : ChangeSpec := { name := "pathsMade", fn := fun _ => fun
  | [d1, d2] => { results := [.lit (.bool false)], args := [d1, d2] }
  | _ => none }
def PathsMadeWrongFalsely : Prop := pathsMadeRow.holds Try.pinned (OpenSpec.ofChange pathsMadeWrong)

/-- 'trustflowlaw19.PathsChecks': WHATEVER THE INPUT: true; the input reads as it did. -/
def pathsChecksSpec : ChangeSpec := { name := "pathsChecks", fn := fun _ => fun
  | [d1, d2, d3] => { results := [.lit (.bool true)], args := [d1, d2, d3] }
  | _ => none }
def pathsChecksRow : OpenClaim := { program := "ytelffnegemdicaa", sum := "3701a8b0a3dce71c826e8e8b343a497f8a4d5912fe06e7040ce0595dce27f548", func := "trustflow/trustflowlaw19.PathsChecks", spec := "pathsChecks", unfollowed := true, recurses := true, apart := false }
def PathsChecksSaid : Prop := pathsChecksRow.holds Try.pinned (OpenSpec.ofChange pathsChecksSpec)

/-- ITS FALSE NEIGHBOUR: 'it returns false'. Refute it at one input. -/
def pathsChecksWrong : ChangeSpec := { name := "pathsChecks", fn := fun _ => fun
  | [d1, d2, d3] => { results := [.lit (.bool false)], args := [d1, d2, d3] }
  | _ => none }
def PathsChecksWrongFalsely : Prop := pathsChecksRow.holds Try.pinned (OpenSpec.ofChange pathsChecksWrong)

/-- 'trustflowlaw19.PathsTaken': WHATEVER THE INPUT: true; the input reads as it did. -/
def pathsTakenSpec : ChangeSpec := { name := "pathsTaken", fn := fun _ => fun
  | [d] => { results := [.lit (.bool true)], args := [d] }
  | _ => none }
def pathsTakenRow : OpenClaim := { program := "ytelffnegemdicaa", sum := "3701a8b0a3dce71c826e8e8b343a497f8a4d5912fe06e7040ce0595dce27f548", func := "trustflow/trustflowlaw19.PathsTaken", spec := "pathsTaken", unfollowed := true, recurses := true, apart := false }
def PathsTakenSaid : Prop := pathsTakenRow.holds Try.pinned (OpenSpec.ofChange pathsTakenSpec)

/-- ITS FALSE NEIGHBOUR: 'it returns false'. Refute it at one input. -/
def pathsTakenWrong : ChangeSpec := { name := "pathsTaken", fn := fun _ => fun
  | [d] => { results := [.lit (.bool false)], args := [d] }
  | _ => none }
def PathsTakenWrongFalsely : Prop := pathsTakenRow.holds Try.pinned (OpenSpec.ofChange pathsTakenWrong)

/-- 'trustflowlaw19.PathsMore': WHATEVER THE INPUT: true; the input reads as it did. -/
def pathsMoreSpec : ChangeSpec := { name := "pathsMore", fn := fun _ => fun
  | [d] => { results := [.lit (.bool true)], args := [d] }
  | _ => none }
def pathsMoreRow : OpenClaim := { program := "ytelffnegemdicaa", sum := "3701a8b0a3dce71c826e8e8b343a497f8a4d5912fe06e7040ce0595dce27f548", func := "trustflow/trustflowlaw19.PathsMore", spec := "pathsMore", unfollowed := true, recurses := true, apart := false }
def PathsMoreSaid : Prop := pathsMoreRow.holds Try.pinned (OpenSpec.ofChange pathsMoreSpec)

/-- ITS FALSE NEIGHBOUR: 'it returns false'. Refute it at one input. -/
def pathsMoreWrong : ChangeSpec := { name := "pathsMore", fn := fun _ => fun
  | [d] => { results := [.lit (.bool false)], args := [d] }
  | _ => none }
def PathsMoreWrongFalsely : Prop := pathsMoreRow.holds Try.pinned (OpenSpec.ofChange pathsMoreWrong)

/- THE SECOND FORM. 'bulk': how many values and letters a reading holds, each counted each time it is reached (what is shared counts as often as it is met; a slice's spare places count too). A statement '..UptoSaid' is the law's where the arguments, and the package variables that the reading takes, are together of bulk at most 1048576: NARROWER than '..Said'. Prove '..Said' where nothing that the law and all that it calls make is longer than what came in: it says more and counts as full. Else prove '..UptoSaid'. A law counts once. -/
mutual
def uptoBulk {H : Type} : DataW H → Nat
  | .lit (.string bytes) => bytes.length + 1
  | .lit _ => 1
  | .nil => 1
  | .ptr d => uptoBulk d + 1
  | .slice elems spare => uptoBulkAll elems + uptoBulkAll spare + 1
  | .agg parts => uptoBulkAll parts + 1
  | .iface _ d => uptoBulk d + 1
  | .map entries => uptoBulkEntries entries + 1
  | .held _ => 1
def uptoBulkAll {H : Type} : List (DataW H) → Nat
  | [] => 0
  | d :: r => uptoBulk d + uptoBulkAll r
def uptoBulkEntries {H : Type} : List (Lit × DataW H) → Nat
  | [] => 0
  | x :: r => uptoBulkEntry x + uptoBulkEntries r
def uptoBulkEntry {H : Type} : Lit × DataW H → Nat
  | (.string bytes, d) => bytes.length + uptoBulk d + 1
  | (_, d) => uptoBulk d + 1
 end
def uptoSmall : (H : Type) → List (DataW H) → Bool := fun _ ds => decide (uptoBulkAll ds ≤ 1048576)
def OpenSpec.upto (s : _root_.Go.ChangeSpec) : _root_.Go.OpenSpec := { _root_.Go.OpenSpec.ofChange s with cond := some uptoSmall }

/-- 'trustflowlaw15.FlowServes', WHERE WHAT IT READS IS OF BULK AT MOST 1048576: true; the input reads as it did. -/
def flowServesUptoRow : OpenClaim := { program := "ytelffnegemdicaa", sum := "3701a8b0a3dce71c826e8e8b343a497f8a4d5912fe06e7040ce0595dce27f548", func := "trustflow/trustflowlaw15.FlowServes", spec := "flowServes", unfollowed := true, recurses := true, apart := false, narrowed := true }
def FlowServesUptoSaid : Prop := flowServesUptoRow.holds Try.pinned (OpenSpec.upto flowServesSpec)

/-- 'trustflowlaw15.FlowFewer', WHERE WHAT IT READS IS OF BULK AT MOST 1048576: true; the input reads as it did. -/
def flowFewerUptoRow : OpenClaim := { program := "ytelffnegemdicaa", sum := "3701a8b0a3dce71c826e8e8b343a497f8a4d5912fe06e7040ce0595dce27f548", func := "trustflow/trustflowlaw15.FlowFewer", spec := "flowFewer", unfollowed := true, recurses := true, apart := false, narrowed := true }
def FlowFewerUptoSaid : Prop := flowFewerUptoRow.holds Try.pinned (OpenSpec.upto flowFewerSpec)

/-- 'trustflowlaw19.PathsMade', WHERE WHAT IT READS IS OF BULK AT MOST 1048576: true; the input reads as it did. -/
def pathsMadeUptoRow : OpenClaim := { program := "ytelffnegemdicaa", sum := "3701a8b0a3dce71c826e8e8b343a497f8a4d5912fe06e7040ce0595dce27f548", func := "trustflow/trustflowlaw19.PathsMade", spec := "pathsMade", unfollowed := true, recurses := true, apart := false, narrowed := true }
def PathsMadeUptoSaid : Prop := pathsMadeUptoRow.holds Try.pinned (OpenSpec.upto pathsMadeSpec)

/-- 'trustflowlaw19.PathsChecks', WHERE WHAT IT READS IS OF BULK AT MOST 1048576: true; the input reads as it did. -/
def pathsChecksUptoRow : OpenClaim := { program := "ytelffnegemdicaa", sum := "3701a8b0a3dce71c826e8e8b343a497f8a4d5912fe06e7040ce0595dce27f548", func := "trustflow/trustflowlaw19.PathsChecks", spec := "pathsChecks", unfollowed := true, recurses := true, apart := false, narrowed := true }
def PathsChecksUptoSaid : Prop := pathsChecksUptoRow.holds Try.pinned (OpenSpec.upto pathsChecksSpec)

/-- 'trustflowlaw19.PathsTaken', WHERE WHAT IT READS IS OF BULK AT MOST 1048576: true; the input reads as it did. -/
def pathsTakenUptoRow : OpenClaim := { program := "ytelffnegemdicaa", sum := "3701a8b0a3dce71c826e8e8b343a497f8a4d5912fe06e7040ce0595dce27f548", func := "trustflow/trustflowlaw19.PathsTaken", spec := "pathsTaken", unfollowed := true, recurses := true, apart := false, narrowed := true }
def PathsTakenUptoSaid : Prop := pathsTakenUptoRow.holds Try.pinned (OpenSpec.upto pathsTakenSpec)

/-- 'trustflowlaw19.PathsMore', WHERE WHAT IT READS IS OF BULK AT MOST 1048576: true; the input reads as it did. -/
def pathsMoreUptoRow : OpenClaim := { program := "ytelffnegemdicaa", sum := "3701a8b0a3dce71c826e8e8b343a497f8a4d5912fe06e7040ce0595dce27f548", func := "trustflow/trustflowlaw19.PathsMore", spec := "pathsMore", unfollowed := true, recurses := true, apart := false, narrowed := true }
def PathsMoreUptoSaid : Prop := pathsMoreUptoRow.holds Try.pinned (OpenSpec.upto pathsMoreSpec)

end Rows
end Go.Proofs.Ytelffnegemdicaa
