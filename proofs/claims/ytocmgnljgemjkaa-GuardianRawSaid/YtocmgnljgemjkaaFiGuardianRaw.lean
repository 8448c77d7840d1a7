/- trustflowlaw34.GuardianRaw returns true for every input that can be read: the whole statement, with no condition. -/
import Derived.Test.YtocmgnljgemjkaaRows
import Derived.WalkKit
import Derived.ProofKit
import Derived.OpenShut
import Derived.ShutString
import Derived.ChangeOld
import Derived.Below
import Derived.Test.YtocmgnljgemjkaaBrC
import Derived.Test.YtocmgnljgemjkaaWa10
import Derived.Test.YtocmgnljgemjkaaPguard
namespace Go.Proofs.Ytocmgnljgemjkaa.guardianRaw
open Go.ChangeShapes Go.WideShapes Go.ChangeAt Go.RowKit
open Go.Abs
set_option linter.unusedVariables false
set_option maxRecDepth 100000
theorem own : ownKnob Try.prog.godebug = none := by kernel_rfl
theorem laidOut : laidOutB Try.prog = true := by kernel_rfl
theorem op3 : Opens Try.prog 3 1 (fun n : Int => AV.int .i64 n) := op_int (k := .i64) (by kernel_rfl)
theorem op22 : Opens Try.prog 22 1 (fun l : (List Int) => AV.lst false false (l.map (AV.int .i64))) := op_slice (n := 1) (e := 3) (by kernel_rfl) (by kernel_rfl) (by decide) op3
theorem op29 : Opens Try.prog 29 3 (fun z : (Int × Int × (List Int) × Unit) => AV.agg ((AV.int .i64 z.1).cells ++ ((AV.int .i64 z.2.1).cells ++ ((AV.lst false false (List.map (AV.int .i64) z.2.2.1)).cells ++ [])))) := op_struct Try.underlying29 (by kernel_rfl) (opFs_cons rfl (by kernel_rfl) op3 (opFs_cons rfl (by kernel_rfl) op3 (opFs_cons rfl (by kernel_rfl) op22 opFs_nil)))
theorem walk (v0 v1 v2 : Value) (w : World) (w0 : ∃ a : (List Int), Rep (allZ w) (AV.lst false false (List.map (AV.int .i64) a)) v0) (w1 : ∃ a : (Int × Int × (List Int) × Unit), Rep (allZ w) (AV.agg ((AV.int .i64 a.1).cells ++ ((AV.int .i64 a.2.1).cells ++ ((AV.lst false false (List.map (AV.int .i64) a.2.2.1)).cells ++ [])))) v1) (w2 : ∃ a : (List Int), Rep (allZ w) (AV.lst false false (List.map (AV.int .i64) a)) v2) :
    Calls Try.prog 6 #[v0, v1, v2] w fun e w' => e = .returned (.bool true) ∧ Below w.heap.size w w' := by
  obtain ⟨x0, w0⟩ := w0
  obtain ⟨⟨x1, x2, x3, _⟩, w1⟩ := w1
  obtain ⟨x4, w2⟩ := w2
  exact (Go.TF.w_law34_GuardianRaw 1000 _ _ _ _ _ _ (Go.TF.GuardianRaw_true _ _ _ _ _ w0.fit w1.fit w2.fit)).use w #[v0, v1, v2] (by simp only [RepVals]; exact ⟨_, _, rfl, w0, ⟨_, _, rfl, w1, ⟨_, _, rfl, w2, rfl⟩⟩⟩)
set_option maxRecDepth 100000 in
theorem lifted (os : Os) (started : os.Started) (H : Type) (enc : TypeId × Value → H) :
    ReturnsInHanded {} Try.checked os 6 .any (Rows.guardianRawSpec.pre6 enc Try.prog Try.f6 Rows.guardianRawRow.domain false) (Rows.guardianRawSpec.post enc Try.prog Try.f6 false true false false) := by
  refine returnsInHanded_of_change (C := Try.checked) own started (by kernel_rfl) Try.func6
    (ChangeSpec.witness6 (enc := enc) (C := Try.checked) false ⟨#[], #[.slice none 0 0, .agg #[.int .i64 0, .int .i64 0, .slice none 0 0], .slice none 0 0], []⟩ 8 (by kernel_rfl) (by kernel_rfl) (by kernel_rfl) (by kernel_rfl)) ?_
  intro W base args ds gs before hval0 hW hcnd _
  have hval : ∀ (j : Nat) t v, Try.f6.params[j]? = some t → args[j]? = some v → Value.okWide Try.prog W .any base t v := hval0
  have hW' := hW
  obtain ⟨p, q, hA0, hV, rfl, hfz, hnd⟩ := hW
  have hA : DataW.TrodAll enc Try.prog W 0 (fun _ => true) true Try.f6.params.toList args.toList ds p := hA0
  rw [Try.params6] at hA hval
  obtain ⟨v0, vs0, d0, ds0, p0, q0, hargs, rfl, rfl, h0, r0⟩ := trodAll_cons hA
  obtain ⟨v1, vs1, d1, ds1, p1, q1, rfl, rfl, rfl, h1, r1⟩ := trodAll_cons r0
  obtain ⟨v2, vs2, d2, ds2, p2, q2, rfl, rfl, rfl, h2, r2⟩ := trodAll_cons r1
  obtain ⟨rfl, rfl, rfl⟩ := trodAll_nil r2
  obtain rfl : args = #[v0, v1, v2] := by cases args; simp_all
  obtain ⟨rfl, rfl⟩ := trodVars_none hV
  have lt0 : ∀ x ∈ p0, x.block < W.heap.size := by obtain ⟨m, hm⟩ := h0; exact DataW.trod_lt m _ _ _ hm
  have w0 := Opens.one op22 (fun _ => rfl) (isone_slice (e := 3) (by kernel_rfl) (hval 0 22 v0 rfl rfl)) h0
  have lt1 : ∀ x ∈ p1, x.block < W.heap.size := by obtain ⟨m, hm⟩ := h1; exact DataW.trod_lt m _ _ _ hm
  have w1 := Opens.agg op29 Try.underlying29 (fun _ => ⟨_, rfl⟩) (hval 1 29 v1 rfl rfl) h1
  have lt2 : ∀ x ∈ p2, x.block < W.heap.size := by obtain ⟨m, hm⟩ := h2; exact DataW.trod_lt m _ _ _ hm
  have w2 := Opens.one op22 (fun _ => rfl) (isone_slice (e := 3) (by kernel_rfl) (hval 2 22 v2 rfl rfl)) h2
  refine (walk v0 v1 v2 W w0 w1 w2).mono fun e W' ⟨he, bel⟩ => ?_
  subst he
  exact ⟨_, rfl, _, _, _, [], _, [], hW', trodAll_mk1 (shut_bool (by kernel_rfl) _), (trodAll_cons_mk (Below.trod laidOut (by kernel_rfl) (of_decide_eq_true (by kernel_rfl)) h0 bel lt0) (trodAll_cons_mk (Below.trod laidOut (by kernel_rfl) (of_decide_eq_true (by kernel_rfl)) h1 bel lt1) (trodAll_cons_mk (Below.trod laidOut (by kernel_rfl) (of_decide_eq_true (by kernel_rfl)) h2 bel lt2) trodAll_mk0))), rfl, bel.frame _, fun h => by cases h⟩

theorem over : Rows.guardianRawRow.holds Try.pinned (OpenSpec.ofChange Rows.guardianRawSpec) :=
  OpenClaim.holds_of_wide 6 Try.f6 rfl rfl rfl rfl rfl rfl rfl ⟨rfl, rfl, rfl, rfl, rfl⟩ rfl rfl rfl rfl rfl (by kernel_rfl) Try.func6 (by kernel_rfl)
    (of_decide_eq_true (by kernel_rfl)) (by unfold Func.isWrapper; first | (rw [if_pos (by decide +kernel)]; kernel_rfl) | (rw [if_neg (by decide +kernel)]; exact ⟨rfl, rfl⟩))
    (fun os started H enc _ => lifted os started H enc)

/-- The statement. -/
theorem proved : Rows.GuardianRawSaid := over
#print axioms proved
end Go.Proofs.Ytocmgnljgemjkaa.guardianRaw
