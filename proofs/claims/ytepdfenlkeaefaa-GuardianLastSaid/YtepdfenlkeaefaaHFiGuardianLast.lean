/- trustflowlaw34.GuardianLast returns true for every input that can be read: the whole statement, with no condition. -/
import Derived.Test.YtepdfenlkeaefaaRows
import Derived.WalkKit
import Derived.ProofKit
import Derived.OpenShut
import Derived.ShutString
import Derived.ChangeOld
import Derived.Below
import Derived.SizedLaws
import Derived.Test.YtepdfenlkeaefaaKBrC
import Derived.Test.YtepdfenlkeaefaaHWa5
import Derived.Test.YtepdfenlkeaefaaHPl
import Derived.Test.YtepdfenlkeaefaaHPros
import Derived.Test.YtepdfenlkeaefaaHPmade
import Derived.Test.YtepdfenlkeaefaaHPwire
import Derived.Test.YtepdfenlkeaefaaHPsets
import Derived.Test.YtepdfenlkeaefaaHPmaj
import Derived.Test.YtepdfenlkeaefaaHPdraw
import Derived.Test.YtepdfenlkeaefaaHPfewer
import Derived.Test.YtepdfenlkeaefaaHPsha
import Derived.Test.YtepdfenlkeaefaaHPrules
import Derived.Test.YtepdfenlkeaefaaHPstat
import Derived.Test.YtepdfenlkeaefaaHPguard
import Derived.Test.YtepdfenlkeaefaaHPseal
import Derived.Test.YtepdfenlkeaefaaHPgall
import Derived.Test.YtepdfenlkeaefaaHPgback
import Derived.Test.YtepdfenlkeaefaaHPglast
namespace Go.Proofs.Ytepdfenlkeaefaa.guardianLast
open Go Go.ChangeShapes Go.WideShapes Go.ChangeAt Go.RowKit
open Go.Abs
set_option linter.unusedVariables false
set_option maxRecDepth 100000
theorem own : ownKnob Try.prog.godebug = none := by kernel_rfl
theorem laidOut : laidOutB Try.prog = true := by kernel_rfl
theorem op3 : Opens Try.prog 3 1 (fun n : Int => AV.int .i64 n) := op_int (k := .i64) (by kernel_rfl)
theorem op27 : Opens Try.prog 27 1 (fun l : (List Int) => AV.lst false false (l.map (AV.int .i64))) := op_slice (n := 1) (e := 3) (by kernel_rfl) (by kernel_rfl) (by decide) op3
theorem walk (v0 : Value) (w : World) (w0 : ∃ a : (List Int), Rep (allZ w) (AV.lst false false (List.map (AV.int .i64) a)) v0) :
    Calls Try.prog 6 #[v0] w fun e w' => e = .returned (.bool true) ∧ Below w.heap.size w w' := by
  obtain ⟨x0, w0⟩ := w0
  obtain ⟨k, hk⟩ := Go.TF.GuardianLast_ex x0 w0.fit
  exact (Go.TF.w_law34_GuardianLast k _ _ hk).use w #[v0] (by simp only [RepVals]; exact ⟨_, _, rfl, w0, rfl⟩)
set_option maxRecDepth 100000 in
theorem lifted (os : Os) (started : os.Started) (H : Type) (enc : TypeId × Value → H) :
    ReturnsInHanded {} Try.checked os 6 .any (Rows.guardianLastSpec.pre6 enc Try.prog Try.f6 Rows.guardianLastRow.domain false) (Rows.guardianLastSpec.post enc Try.prog Try.f6 false true false false) := by
  refine returnsInHanded_of_change (C := Try.checked) own started (by kernel_rfl) Try.func6
    (ChangeSpec.witness6 (enc := enc) (C := Try.checked) false ⟨#[], #[.slice none 0 0], []⟩ 8 (by kernel_rfl) (by kernel_rfl) (by kernel_rfl) (by kernel_rfl)) ?_
  intro W base args ds gs before hval0 hW hcnd _
  have hval : ∀ (j : Nat) t v, Try.f6.params[j]? = some t → args[j]? = some v → Value.okWide Try.prog W .any base t v := hval0
  have hW' := hW
  obtain ⟨p, q, hA0, hV, rfl, hfz, hnd⟩ := hW
  have hA : DataW.TrodAll enc Try.prog W 0 (fun _ => true) true Try.f6.params.toList args.toList ds p := hA0
  rw [Try.params6] at hA hval
  obtain ⟨v0, vs0, d0, ds0, p0, q0, hargs, rfl, rfl, h0, r0⟩ := trodAll_cons hA
  obtain ⟨rfl, rfl, rfl⟩ := trodAll_nil r0
  obtain rfl : args = #[v0] := by cases args; simp_all
  obtain ⟨rfl, rfl⟩ := trodVars_none hV
  have lt0 : ∀ x ∈ p0, x.block < W.heap.size := by obtain ⟨m, hm⟩ := h0; exact DataW.trod_lt m _ _ _ hm
  have w0 := Opens.one op27 (fun _ => rfl) (isone_slice (e := 3) (by kernel_rfl) (hval 0 27 v0 rfl rfl)) h0
  refine (walk v0 W w0).mono fun e W' ⟨he, bel⟩ => ?_
  subst he
  exact ⟨_, rfl, _, _, _, [], _, [], hW', trodAll_mk1 (shut_bool (by kernel_rfl) _), (trodAll_cons_mk (Below.trod laidOut (by kernel_rfl) (of_decide_eq_true (by kernel_rfl)) h0 bel lt0) trodAll_mk0), rfl, bel.frame _, fun h => by cases h⟩
theorem ws_cons : ∀ (w r : List Char), (∀ c ∈ w, c ≠ (Char.ofNat 32)) → wordsSigns (w ++ (Char.ofNat 32) :: r) = w :: wordsSigns r
  | [], r, _ => rfl
  | c :: w, r, h => by
    have hc : c ≠ (Char.ofNat 32) := h c (by simp)
    have ih := ws_cons w r (fun x hx => h x (by simp [hx]))
    show wordsSigns (c :: (w ++ (Char.ofNat 32) :: r)) = _
    rw [wordsSigns, ih]
    exact hc
theorem ini : Try.pinned.checked.prog.initOrder.toList = (List.map Char.ofNat [104, 97, 114, 110, 101, 115, 115]) ++ (Char.ofNat 32) :: ((List.map Char.ofNat [48, 51, 50, 49, 57, 98, 56, 57, 52, 57, 57, 98, 98, 101, 55, 48, 56, 56, 57, 98, 52, 98, 98, 49, 48, 48, 53, 57, 50, 50, 49, 49, 102, 98, 99, 57, 98, 98, 53, 55, 98, 99, 51, 54, 52, 99, 100, 52, 97, 97, 97, 53, 57, 50, 53, 100, 54, 55, 100, 53, 99, 56, 51, 51]) ++ (Char.ofNat 32) :: ((List.map Char.ofNat [99, 117, 116]) ++ (Char.ofNat 32) :: (List.map Char.ofNat [97, 116, 32, 116, 114, 117, 115, 116, 102, 108, 111, 119, 47, 116, 114, 117, 115, 116, 102, 108, 111, 119, 108, 97, 119, 48, 49, 46, 68, 105, 103, 101, 115, 116, 76, 111, 110, 103, 32, 116, 114, 117, 115, 116, 102, 108, 111, 119, 47, 116, 114, 117, 115, 116, 102, 108, 111, 119, 108, 97, 119, 50, 52, 46, 82, 111, 115, 116, 101, 114, 71, 101, 110, 101, 115, 105, 115, 32, 116, 114, 117, 115, 116, 102, 108, 111, 119, 47, 116, 114, 117, 115, 116, 102, 108, 111, 119, 108, 97, 119, 51, 52, 46, 71, 117, 97, 114, 100, 105, 97, 110, 65, 108, 108, 32, 116, 114, 117, 115, 116, 102, 108, 111, 119, 47, 116, 114, 117, 115, 116, 102, 108, 111, 119, 108, 97, 119, 51, 52, 46, 71, 117, 97, 114, 100, 105, 97, 110, 76, 97, 115, 116, 32, 116, 114, 117, 115, 116, 102, 108, 111, 119, 47, 116, 114, 117, 115, 116, 102, 108, 111, 119, 108, 97, 119, 51, 52, 46, 71, 117, 97, 114, 100, 105, 97, 110, 66, 97, 99, 107, 32, 116, 114, 117, 115, 116, 102, 108, 111, 119, 47, 116, 114, 117, 115, 116, 102, 108, 111, 119, 108, 97, 119, 50, 53, 46, 66, 101, 97, 99, 111, 110, 77, 105, 120, 101, 115, 32, 116, 114, 117, 115, 116, 102, 108, 111, 119, 47, 116, 114, 117, 115, 116, 102, 108, 111, 119, 108, 97, 119, 50, 53, 46, 66, 101, 97, 99, 111, 110, 82, 97, 119, 32, 116, 114, 117, 115, 116, 102, 108, 111, 119, 47, 116, 114, 117, 115, 116, 102, 108, 111, 119, 108, 97, 119, 50, 54, 46, 67, 111, 109, 109, 105, 116, 116, 101, 101, 79, 102, 32, 116, 114, 117, 115, 116, 102, 108, 111, 119, 47, 116, 114, 117, 115, 116, 102, 108, 111, 119, 108, 97, 119, 50, 54, 46, 67, 111, 109, 109, 105, 116, 116, 101, 101, 65, 112, 97, 114, 116]))) :=
  (congrArg String.toList (show Try.pinned.checked.prog.initOrder = String.ofList _ by kernel_rfl)).trans String.toList_ofList
theorem words : ∃ R, behindMainWord (wordsSigns Try.pinned.checked.prog.initOrder.toList) = (List.map Char.ofNat [99, 117, 116]) :: R := by
  rw [ini, ws_cons _ _ (by decide +kernel), ws_cons _ _ (by decide +kernel), ws_cons _ _ (by decide +kernel)]
  generalize wordsSigns (List.map Char.ofNat [97, 116, 32, 116, 114, 117, 115, 116, 102, 108, 111, 119, 47, 116, 114, 117, 115, 116, 102, 108, 111, 119, 108, 97, 119, 48, 49, 46, 68, 105, 103, 101, 115, 116, 76, 111, 110, 103, 32, 116, 114, 117, 115, 116, 102, 108, 111, 119, 47, 116, 114, 117, 115, 116, 102, 108, 111, 119, 108, 97, 119, 50, 52, 46, 82, 111, 115, 116, 101, 114, 71, 101, 110, 101, 115, 105, 115, 32, 116, 114, 117, 115, 116, 102, 108, 111, 119, 47, 116, 114, 117, 115, 116, 102, 108, 111, 119, 108, 97, 119, 51, 52, 46, 71, 117, 97, 114, 100, 105, 97, 110, 65, 108, 108, 32, 116, 114, 117, 115, 116, 102, 108, 111, 119, 47, 116, 114, 117, 115, 116, 102, 108, 111, 119, 108, 97, 119, 51, 52, 46, 71, 117, 97, 114, 100, 105, 97, 110, 76, 97, 115, 116, 32, 116, 114, 117, 115, 116, 102, 108, 111, 119, 47, 116, 114, 117, 115, 116, 102, 108, 111, 119, 108, 97, 119, 51, 52, 46, 71, 117, 97, 114, 100, 105, 97, 110, 66, 97, 99, 107, 32, 116, 114, 117, 115, 116, 102, 108, 111, 119, 47, 116, 114, 117, 115, 116, 102, 108, 111, 119, 108, 97, 119, 50, 53, 46, 66, 101, 97, 99, 111, 110, 77, 105, 120, 101, 115, 32, 116, 114, 117, 115, 116, 102, 108, 111, 119, 47, 116, 114, 117, 115, 116, 102, 108, 111, 119, 108, 97, 119, 50, 53, 46, 66, 101, 97, 99, 111, 110, 82, 97, 119, 32, 116, 114, 117, 115, 116, 102, 108, 111, 119, 47, 116, 114, 117, 115, 116, 102, 108, 111, 119, 108, 97, 119, 50, 54, 46, 67, 111, 109, 109, 105, 116, 116, 101, 101, 79, 102, 32, 116, 114, 117, 115, 116, 102, 108, 111, 119, 47, 116, 114, 117, 115, 116, 102, 108, 111, 119, 108, 97, 119, 50, 54, 46, 67, 111, 109, 109, 105, 116, 116, 101, 101, 65, 112, 97, 114, 116]) = R
  exact ⟨R, by kernel_rfl⟩
theorem make_of (P : Program) (R : List (List Char)) (h : behindMainWord (wordsSigns P.initOrder.toList) = (List.map Char.ofNat [99, 117, 116]) :: R) : P.make = some .cut := by
  have e1 : (((List.map Char.ofNat [99, 117, 116]) : List Char) == "gc".toList || ((List.map Char.ofNat [99, 117, 116]) : List Char) == "spec".toList) = false := by decide +kernel
  have e2 : (((List.map Char.ofNat [99, 117, 116]) : List Char) == "cut".toList) = true := by decide +kernel
  unfold Program.make
  rw [h]
  dsimp only
  rw [e1, e2]
  simp
theorem lifts_of (P : Program) (R : List (List Char)) (h : behindMainWord (wordsSigns P.initOrder.toList) = (List.map Char.ofNat [99, 117, 116]) :: R) : P.liftsFinal = false := by
  unfold Program.liftsFinal Program.headLifts
  rw [h]
  kernel_rfl
theorem enter_of (P : Program) (R : List (List Char)) (h : behindMainWord (wordsSigns P.initOrder.toList) = (List.map Char.ofNat [99, 117, 116]) :: R) (e1 : P.laysLater = false) (e2 : P.bearsReflect = false) (e3 : P.doorFits [] = true) : P.mayEnter = true := by
  have e0 : stripLifts liftWords ((List.map Char.ofNat [99, 117, 116]) :: R) = ([], (List.map Char.ofNat [99, 117, 116]) :: R) := by kernel_rfl
  unfold Program.mayEnter
  rw [h]
  dsimp only
  rw [e0, e1, e2]
  dsimp only
  rw [e3]
  simp
theorem mayEnter : Try.pinned.checked.prog.mayEnter = true := by
  obtain ⟨R, h⟩ := words
  exact enter_of _ R h (by kernel_rfl) (by kernel_rfl) (by kernel_rfl)
theorem liftsFinal : Try.pinned.checked.prog.liftsFinal = false := by
  obtain ⟨R, h⟩ := words
  exact lifts_of _ R h
theorem make : Try.pinned.checked.prog.make = some .cut := by
  obtain ⟨R, h⟩ := words
  exact make_of _ R h


theorem joined : joinedFacts Try.pinned.checked.prog 6 Try.f6 Rows.guardianLastSpec Rows.guardianLastRow = true := by unfold joinedFacts; rw [mayEnter, liftsFinal, make]; kernel_rfl
theorem over : Rows.guardianLastRow.holds Try.pinned (OpenSpec.ofChange Rows.guardianLastSpec) :=
  OpenClaim.holds_of_wide 6 Try.f6 rfl rfl rfl rfl rfl rfl rfl ⟨rfl, rfl, rfl, rfl, rfl⟩ rfl rfl rfl rfl rfl (by kernel_rfl) Try.func6 joined
    (of_decide_eq_true (by kernel_rfl)) (by unfold Func.isWrapper; first | (rw [if_pos (by decide +kernel)]; kernel_rfl) | (rw [if_neg (by decide +kernel)]; exact ⟨rfl, rfl⟩))
    (fun os started H enc _ => lifted os started H enc)

/-- The statement. -/
theorem proved : Rows.GuardianLastSaid := over
#print axioms proved
end Go.Proofs.Ytepdfenlkeaefaa.guardianLast
