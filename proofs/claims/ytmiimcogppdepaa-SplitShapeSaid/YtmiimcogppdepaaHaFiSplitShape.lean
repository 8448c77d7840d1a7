/- trustflowlaw14.SplitShape returns true for every input that can be read: the whole statement, with no condition. -/
import Derived.Test.YtmiimcogppdepaaRows
import Derived.WalkKit
import Derived.ProofKit
import Derived.OpenShut
import Derived.ShutString
import Derived.ChangeOld
import Derived.Below
import Derived.SizedLaws
import Derived.Test.YtmiimcogppdepaaBrC
import Derived.Test.YtmiimcogppdepaaHaWa5
import Derived.Test.YtmiimcogppdepaaHaPl
import Derived.Test.YtmiimcogppdepaaHaPmade
import Derived.Test.YtmiimcogppdepaaHaPgr
import Derived.Test.YtmiimcogppdepaaHaPdist
import Derived.Test.YtmiimcogppdepaaHaPdq
import Derived.Test.YtmiimcogppdepaaHaPdf
import Derived.Test.YtmiimcogppdepaaHaPds
import Derived.Test.YtmiimcogppdepaaHaPcy
import Derived.Test.YtmiimcogppdepaaHaPcz
import Derived.Test.YtmiimcogppdepaaHaPca
import Derived.Test.YtmiimcogppdepaaHaPsp
import Derived.Test.YtmiimcogppdepaaHaPss
namespace Go.Proofs.Ytmiimcogppdepaa.splitShape
open Go Go.ChangeShapes Go.WideShapes Go.ChangeAt Go.RowKit
open Go.Abs
set_option linter.unusedVariables false
set_option maxRecDepth 100000
theorem own : ownKnob Try.prog.godebug = none := by kernel_rfl
theorem laidOut : laidOutB Try.prog = true := by kernel_rfl
theorem op3 : Opens Try.prog 3 1 (fun n : Int => AV.int .i64 n) := op_int (k := .i64) (by kernel_rfl)
theorem op22 : Opens Try.prog 22 1 (fun l : (List Int) => AV.lst false false (l.map (AV.int .i64))) := op_slice (n := 1) (e := 3) (by kernel_rfl) (by kernel_rfl) (by decide) op3
theorem walk (v0 : Value) (w : World) (w0 : ∃ a : (List Int), Rep (allZ w) (AV.lst false false (List.map (AV.int .i64) a)) v0) :
    Calls Try.prog 8 #[v0] w fun e w' => e = .returned (.bool true) ∧ Below w.heap.size w w' := by
  obtain ⟨x0, w0⟩ := w0
  exact (Go.TF.w_law14_SplitShape 1000 _ _ (Go.TF.SplitShape_true _ w0.fit)).use w #[v0] (by simp only [RepVals]; exact ⟨_, _, rfl, w0, rfl⟩)
set_option maxRecDepth 100000 in
theorem lifted (os : Os) (started : os.Started) (H : Type) (enc : TypeId × Value → H) :
    ReturnsInHanded {} Try.checked os 8 .any (Rows.splitShapeSpec.pre6 enc Try.prog Try.f8 Rows.splitShapeRow.domain false) (Rows.splitShapeSpec.post enc Try.prog Try.f8 false true false false) := by
  refine returnsInHanded_of_change (C := Try.checked) own started (by kernel_rfl) Try.func8
    (ChangeSpec.witness6 (enc := enc) (C := Try.checked) false ⟨#[], #[.slice none 0 0], []⟩ 8 (by kernel_rfl) (by kernel_rfl) (by kernel_rfl) (by kernel_rfl)) ?_
  intro W base args ds gs before hval0 hW hcnd _
  have hval : ∀ (j : Nat) t v, Try.f8.params[j]? = some t → args[j]? = some v → Value.okWide Try.prog W .any base t v := hval0
  have hW' := hW
  obtain ⟨p, q, hA0, hV, rfl, hfz, hnd⟩ := hW
  have hA : DataW.TrodAll enc Try.prog W 0 (fun _ => true) true Try.f8.params.toList args.toList ds p := hA0
  rw [Try.params8] at hA hval
  obtain ⟨v0, vs0, d0, ds0, p0, q0, hargs, rfl, rfl, h0, r0⟩ := trodAll_cons hA
  obtain ⟨rfl, rfl, rfl⟩ := trodAll_nil r0
  obtain rfl : args = #[v0] := by cases args; simp_all
  obtain ⟨rfl, rfl⟩ := trodVars_none hV
  have lt0 : ∀ x ∈ p0, x.block < W.heap.size := by obtain ⟨m, hm⟩ := h0; exact DataW.trod_lt m _ _ _ hm
  have w0 := Opens.one op22 (fun _ => rfl) (isone_slice (e := 3) (by kernel_rfl) (hval 0 22 v0 rfl rfl)) h0
  refine (walk v0 W w0).mono fun e W' ⟨he, bel⟩ => ?_
  subst he
  exact ⟨_, rfl, _, _, _, [], _, [], hW', trodAll_mk1 (shut_bool (by kernel_rfl) _), (trodAll_cons_mk (Below.trod laidOut (by kernel_rfl) (of_decide_eq_true (by kernel_rfl)) h0 bel lt0) trodAll_mk0), rfl, bel.frame _, fun h => by cases h⟩
theorem ws_cons : ∀ (w r : List Char), (∀ c ∈ w, c ≠ (Char.ofNat 32)) → wordsSigns (w ++ (Char.ofNat 32) :: r) = w :: wordsSigns r
  | [], r, _ => rfl
  | c :: w, r, h => by
    have hc : c ≠ (Char.ofNat 32) := h c (by simp)
    have ih := ws_cons w r (fun x hx => h x (by simp [hx]))
    show wordsSigns (c :: (w ++ (Char.ofNat 32) :: r)) = _
    rw [wordsSigns, ih]
    exact hc
theorem ini : Try.pinned.checked.prog.initOrder.toList = (List.map Char.ofNat [104, 97, 114, 110, 101, 115, 115]) ++ (Char.ofNat 32) :: ((List.map Char.ofNat [48, 54, 53, 48, 101, 49, 49, 98, 97, 49, 97, 50, 54, 100, 55, 50, 102, 53, 54, 99, 53, 48, 101, 51, 97, 48, 98, 55, 57, 52, 48, 49, 49, 98, 55, 55, 97, 48, 57, 55, 98, 57, 99, 53, 100, 52, 101, 98, 101, 100, 54, 56, 98, 48, 57, 56, 100, 99, 102, 48, 56, 100, 52, 98]) ++ (Char.ofNat 32) :: ((List.map Char.ofNat [99, 117, 116]) ++ (Char.ofNat 32) :: (List.map Char.ofNat [97, 116, 32, 116, 114, 117, 115, 116, 102, 108, 111, 119, 47, 116, 114, 117, 115, 116, 102, 108, 111, 119, 108, 97, 119, 49, 51, 46, 67, 97, 112, 97, 99, 105, 116, 121, 82, 97, 119, 32, 116, 114, 117, 115, 116, 102, 108, 111, 119, 47, 116, 114, 117, 115, 116, 102, 108, 111, 119, 108, 97, 119, 49, 51, 46, 67, 97, 112, 97, 99, 105, 116, 121, 77, 97, 100, 101, 32, 116, 114, 117, 115, 116, 102, 108, 111, 119, 47, 116, 114, 117, 115, 116, 102, 108, 111, 119, 108, 97, 119, 49, 51, 46, 67, 97, 112, 97, 99, 105, 116, 121, 77, 111, 114, 101, 32, 116, 114, 117, 115, 116, 102, 108, 111, 119, 47, 116, 114, 117, 115, 116, 102, 108, 111, 119, 108, 97, 119, 49, 51, 46, 67, 97, 112, 97, 99, 105, 116, 121, 66, 111, 117, 110, 100, 115, 32, 116, 114, 117, 115, 116, 102, 108, 111, 119, 47, 116, 114, 117, 115, 116, 102, 108, 111, 119, 108, 97, 119, 49, 52, 46, 83, 112, 108, 105, 116, 78, 101, 116, 119, 111, 114, 107, 115, 32, 116, 114, 117, 115, 116, 102, 108, 111, 119, 47, 116, 114, 117, 115, 116, 102, 108, 111, 119, 108, 97, 119, 49, 52, 46, 83, 112, 108, 105, 116, 83, 104, 97, 112, 101]))) :=
  (congrArg String.toList (show Try.pinned.checked.prog.initOrder = String.ofList _ by kernel_rfl)).trans String.toList_ofList
theorem words : ∃ R, behindMainWord (wordsSigns Try.pinned.checked.prog.initOrder.toList) = (List.map Char.ofNat [99, 117, 116]) :: R := by
  rw [ini, ws_cons _ _ (by decide +kernel), ws_cons _ _ (by decide +kernel), ws_cons _ _ (by decide +kernel)]
  generalize wordsSigns (List.map Char.ofNat [97, 116, 32, 116, 114, 117, 115, 116, 102, 108, 111, 119, 47, 116, 114, 117, 115, 116, 102, 108, 111, 119, 108, 97, 119, 49, 51, 46, 67, 97, 112, 97, 99, 105, 116, 121, 82, 97, 119, 32, 116, 114, 117, 115, 116, 102, 108, 111, 119, 47, 116, 114, 117, 115, 116, 102, 108, 111, 119, 108, 97, 119, 49, 51, 46, 67, 97, 112, 97, 99, 105, 116, 121, 77, 97, 100, 101, 32, 116, 114, 117, 115, 116, 102, 108, 111, 119, 47, 116, 114, 117, 115, 116, 102, 108, 111, 119, 108, 97, 119, 49, 51, 46, 67, 97, 112, 97, 99, 105, 116, 121, 77, 111, 114, 101, 32, 116, 114, 117, 115, 116, 102, 108, 111, 119, 47, 116, 114, 117, 115, 116, 102, 108, 111, 119, 108, 97, 119, 49, 51, 46, 67, 97, 112, 97, 99, 105, 116, 121, 66, 111, 117, 110, 100, 115, 32, 116, 114, 117, 115, 116, 102, 108, 111, 119, 47, 116, 114, 117, 115, 116, 102, 108, 111, 119, 108, 97, 119, 49, 52, 46, 83, 112, 108, 105, 116, 78, 101, 116, 119, 111, 114, 107, 115, 32, 116, 114, 117, 115, 116, 102, 108, 111, 119, 47, 116, 114, 117, 115, 116, 102, 108, 111, 119, 108, 97, 119, 49, 52, 46, 83, 112, 108, 105, 116, 83, 104, 97, 112, 101]) = R
  exact ⟨R, by kernel_rfl⟩
theorem make_of (P : Program) (R : List (List Char)) (h : behindMainWord (wordsSigns P.initOrder.toList) = (List.map Char.ofNat [99, 117, 116]) :: R) : P.make = some .cut := by
  have e1 : (((List.map Char.ofNat [99, 117, 116]) : List Char) == "gc".toList || ((List.map Char.ofNat [99, 117, 116]) : List Char) == "spec".toList) = false := by decide +kernel
  have e2 : (((List.map Char.ofNat [99, 117, 116]) : List Char) == "cut".toList) = true := by decide +kernel
  unfold Program.make
  rw [h]
  dsimp only
  rw [e1, e2]
  simp
theorem lifts_of (P : Program) (R : List (List Char)) (h : behindMainWord (wordsSigns P.initOrder.toList) = (List.map Char.ofNat [99, 117, 116]) :: R) : P.liftsFinal = false := by
  unfold Program.liftsFinal Program.headLifts
  rw [h]
  kernel_rfl
theorem enter_of (P : Program) (R : List (List Char)) (h : behindMainWord (wordsSigns P.initOrder.toList) = (List.map Char.ofNat [99, 117, 116]) :: R) (e1 : P.laysLater = false) (e2 : P.bearsReflect = false) (e3 : P.doorFits [] = true) : P.mayEnter = true := by
  have e0 : stripLifts liftWords ((List.map Char.ofNat [99, 117, 116]) :: R) = ([], (List.map Char.ofNat [99, 117, 116]) :: R) := by kernel_rfl
  unfold Program.mayEnter
  rw [h]
  dsimp only
  rw [e0, e1, e2]
  dsimp only
  rw [e3]
  simp
theorem mayEnter : Try.pinned.checked.prog.mayEnter = true := by
  obtain ⟨R, h⟩ := words
  exact enter_of _ R h (by kernel_rfl) (by kernel_rfl) (by kernel_rfl)
theorem liftsFinal : Try.pinned.checked.prog.liftsFinal = false := by
  obtain ⟨R, h⟩ := words
  exact lifts_of _ R h
theorem make : Try.pinned.checked.prog.make = some .cut := by
  obtain ⟨R, h⟩ := words
  exact make_of _ R h


theorem joined : joinedFacts Try.pinned.checked.prog 8 Try.f8 Rows.splitShapeSpec Rows.splitShapeRow = true := by unfold joinedFacts; rw [mayEnter, liftsFinal, make]; kernel_rfl
theorem over : Rows.splitShapeRow.holds Try.pinned (OpenSpec.ofChange Rows.splitShapeSpec) :=
  OpenClaim.holds_of_wide 8 Try.f8 rfl rfl rfl rfl rfl rfl rfl ⟨rfl, rfl, rfl, rfl, rfl⟩ rfl rfl rfl rfl rfl (by kernel_rfl) Try.func8 joined
    (of_decide_eq_true (by kernel_rfl)) (by unfold Func.isWrapper; first | (rw [if_pos (by decide +kernel)]; kernel_rfl) | (rw [if_neg (by decide +kernel)]; exact ⟨rfl, rfl⟩))
    (fun os started H enc _ => lifted os started H enc)

/-- The statement. -/
theorem proved : Rows.SplitShapeSaid := over
#print axioms proved
end Go.Proofs.Ytmiimcogppdepaa.splitShape
