/- trustflowlaw26.CommitteeDraws returns true for every input that can be read: the whole statement, with no condition. -/
import Derived.Test.YtocmgnljgemjkaaRows
import Derived.WalkKit
import Derived.ProofKit
import Derived.OpenShut
import Derived.ShutString
import Derived.ChangeOld
import Derived.Below
import Derived.Test.YtocmgnljgemjkaaBrC
import Derived.Test.YtocmgnljgemjkaaWD3
import Derived.Test.YtocmgnljgemjkaaPdraw
namespace Go.Proofs.Ytocmgnljgemjkaa.committeeDraws
open Go.ChangeShapes Go.WideShapes Go.ChangeAt Go.RowKit
open Go.Abs
set_option linter.unusedVariables false
set_option maxRecDepth 100000
theorem own : ownKnob Try.prog.godebug = none := by kernel_rfl
theorem laidOut : laidOutB Try.prog = true := by kernel_rfl
theorem op3 : Opens Try.prog 3 1 (fun n : Int => AV.int .i64 n) := op_int (k := .i64) (by kernel_rfl)
theorem op22 : Opens Try.prog 22 1 (fun l : (List Int) => AV.lst false false (l.map (AV.int .i64))) := op_slice (n := 1) (e := 3) (by kernel_rfl) (by kernel_rfl) (by decide) op3
theorem walk (v0 v1 v2 v3 : Value) (w : World) (w0 : ∃ a : (List Int), Rep (allZ w) (AV.lst false false (List.map (AV.int .i64) a)) v0) (w1 : ∃ a : (List Int), Rep (allZ w) (AV.lst false false (List.map (AV.int .i64) a)) v1) (w2 : ∃ a : Int, Rep (allZ w) (AV.int .i64 a) v2) (w3 : ∃ a : Int, Rep (allZ w) (AV.int .i64 a) v3) :
    Calls Try.prog 12 #[v0, v1, v2, v3] w fun e w' => e = .returned (.bool true) ∧ Below w.heap.size w w' := by
  obtain ⟨x0, w0⟩ := w0
  obtain ⟨x1, w1⟩ := w1
  obtain ⟨x2, w2⟩ := w2
  obtain ⟨x3, w3⟩ := w3
  exact (Go.TF.w_law26_CommitteeDraws 1000 _ _ _ _ _ (Go.TF.CommitteeDraws_true _ _ _ _ w0.fit w1.fit w2.fit w3.fit)).use w #[v0, v1, v2, v3] (by simp only [RepVals]; exact ⟨_, _, rfl, w0, ⟨_, _, rfl, w1, ⟨_, _, rfl, w2, ⟨_, _, rfl, w3, rfl⟩⟩⟩⟩)
set_option maxRecDepth 100000 in
theorem lifted (os : Os) (started : os.Started) (H : Type) (enc : TypeId × Value → H) :
    ReturnsInHanded {} Try.checked os 12 .any (Rows.committeeDrawsSpec.pre6 enc Try.prog Try.f12 Rows.committeeDrawsRow.domain false) (Rows.committeeDrawsSpec.post enc Try.prog Try.f12 false true false false) := by
  refine returnsInHanded_of_change (C := Try.checked) own started (by kernel_rfl) Try.func12
    (ChangeSpec.witness6 (enc := enc) (C := Try.checked) false ⟨#[], #[.slice none 0 0, .slice none 0 0, .int .i64 0, .int .i64 0], []⟩ 8 (by kernel_rfl) (by kernel_rfl) (by kernel_rfl) (by kernel_rfl)) ?_
  intro W base args ds gs before hval0 hW hcnd _
  have hval : ∀ (j : Nat) t v, Try.f12.params[j]? = some t → args[j]? = some v → Value.okWide Try.prog W .any base t v := hval0
  have hW' := hW
  obtain ⟨p, q, hA0, hV, rfl, hfz, hnd⟩ := hW
  have hA : DataW.TrodAll enc Try.prog W 0 (fun _ => true) true Try.f12.params.toList args.toList ds p := hA0
  rw [Try.params12] at hA hval
  obtain ⟨v0, vs0, d0, ds0, p0, q0, hargs, rfl, rfl, h0, r0⟩ := trodAll_cons hA
  obtain ⟨v1, vs1, d1, ds1, p1, q1, rfl, rfl, rfl, h1, r1⟩ := trodAll_cons r0
  obtain ⟨v2, vs2, d2, ds2, p2, q2, rfl, rfl, rfl, h2, r2⟩ := trodAll_cons r1
  obtain ⟨v3, vs3, d3, ds3, p3, q3, rfl, rfl, rfl, h3, r3⟩ := trodAll_cons r2
  obtain ⟨rfl, rfl, rfl⟩ := trodAll_nil r3
  obtain rfl : args = #[v0, v1, v2, v3] := by cases args; simp_all
  obtain ⟨rfl, rfl⟩ := trodVars_none hV
  have lt0 : ∀ x ∈ p0, x.block < W.heap.size := by obtain ⟨m, hm⟩ := h0; exact DataW.trod_lt m _ _ _ hm
  have w0 := Opens.one op22 (fun _ => rfl) (isone_slice (e := 3) (by kernel_rfl) (hval 0 22 v0 rfl rfl)) h0
  have lt1 : ∀ x ∈ p1, x.block < W.heap.size := by obtain ⟨m, hm⟩ := h1; exact DataW.trod_lt m _ _ _ hm
  have w1 := Opens.one op22 (fun _ => rfl) (isone_slice (e := 3) (by kernel_rfl) (hval 1 22 v1 rfl rfl)) h1
  have lt2 : ∀ x ∈ p2, x.block < W.heap.size := by obtain ⟨m, hm⟩ := h2; exact DataW.trod_lt m _ _ _ hm
  have w2 := Opens.one op3 (fun _ => rfl) (isone_int (k := .i64) (by kernel_rfl) (hval 2 3 v2 rfl rfl)) h2
  have lt3 : ∀ x ∈ p3, x.block < W.heap.size := by obtain ⟨m, hm⟩ := h3; exact DataW.trod_lt m _ _ _ hm
  have w3 := Opens.one op3 (fun _ => rfl) (isone_int (k := .i64) (by kernel_rfl) (hval 3 3 v3 rfl rfl)) h3
  refine (walk v0 v1 v2 v3 W w0 w1 w2 w3).mono fun e W' ⟨he, bel⟩ => ?_
  subst he
  exact ⟨_, rfl, _, _, _, [], _, [], hW', trodAll_mk1 (shut_bool (by kernel_rfl) _), (trodAll_cons_mk (Below.trod laidOut (by kernel_rfl) (of_decide_eq_true (by kernel_rfl)) h0 bel lt0) (trodAll_cons_mk (Below.trod laidOut (by kernel_rfl) (of_decide_eq_true (by kernel_rfl)) h1 bel lt1) (trodAll_cons_mk (Below.trod laidOut (by kernel_rfl) (of_decide_eq_true (by kernel_rfl)) h2 bel lt2) (trodAll_cons_mk (Below.trod laidOut (by kernel_rfl) (of_decide_eq_true (by kernel_rfl)) h3 bel lt3) trodAll_mk0)))), rfl, bel.frame _, fun h => by cases h⟩

theorem over : Rows.committeeDrawsRow.holds Try.pinned (OpenSpec.ofChange Rows.committeeDrawsSpec) :=
  OpenClaim.holds_of_wide 12 Try.f12 rfl rfl rfl rfl rfl rfl rfl ⟨rfl, rfl, rfl, rfl, rfl⟩ rfl rfl rfl rfl rfl (by kernel_rfl) Try.func12 (by kernel_rfl)
    (of_decide_eq_true (by kernel_rfl)) (by unfold Func.isWrapper; first | (rw [if_pos (by decide +kernel)]; kernel_rfl) | (rw [if_neg (by decide +kernel)]; exact ⟨rfl, rfl⟩))
    (fun os started H enc _ => lifted os started H enc)

/-- The statement. -/
theorem proved : Rows.CommitteeDrawsSaid := over
#print axioms proved
end Go.Proofs.Ytocmgnljgemjkaa.committeeDraws
