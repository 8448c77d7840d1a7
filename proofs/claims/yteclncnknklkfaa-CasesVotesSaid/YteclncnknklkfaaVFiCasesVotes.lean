/- trustflowlaw23.CasesVotes returns true for every input that can be read: the whole statement, with no condition. -/
import Derived.Test.YteclncnknklkfaaRows
import Derived.WalkKit
import Derived.ProofKit
import Derived.OpenShut
import Derived.ShutString
import Derived.ChangeOld
import Derived.Below
import Derived.SizedLaws
import Derived.Test.YteclncnknklkfaaBrC
import Derived.Test.YteclncnknklkfaaVWa5
import Derived.Test.YteclncnknklkfaaVPl
import Derived.Test.YteclncnknklkfaaVPros
import Derived.Test.YteclncnknklkfaaVPmade
import Derived.Test.YteclncnknklkfaaVPwire
import Derived.Test.YteclncnknklkfaaVPrules
import Derived.Test.YteclncnknklkfaaVPstat
import Derived.Test.YteclncnknklkfaaVPsha
import Derived.Test.YteclncnknklkfaaVPseal
import Derived.Test.YteclncnknklkfaaVPcase
import Derived.Test.YteclncnknklkfaaVPcord
import Derived.Test.YteclncnknklkfaaVPclaws
namespace Go.Proofs.Yteclncnknklkfaa.casesVotes
open Go Go.ChangeShapes Go.WideShapes Go.ChangeAt Go.RowKit
open Go.Abs
set_option linter.unusedVariables false
set_option maxRecDepth 100000
theorem own : ownKnob Try.prog.godebug = none := by kernel_rfl
theorem laidOut : laidOutB Try.prog = true := by kernel_rfl
theorem op3 : Opens Try.prog 3 1 (fun n : Int => AV.int .i64 n) := op_int (k := .i64) (by kernel_rfl)
theorem op22 : Opens Try.prog 22 1 (fun l : (List Int) => AV.lst false false (l.map (AV.int .i64))) := op_slice (n := 1) (e := 3) (by kernel_rfl) (by kernel_rfl) (by decide) op3
theorem op9 : Opens Try.prog 9 1 (fun s : ByteArray => AV.str s) := op_str (by kernel_rfl)
theorem op25 : Opens Try.prog 25 2 (fun z : (Int × ByteArray × Unit) => AV.agg ((AV.int .i64 z.1).cells ++ ((AV.str z.2.1).cells ++ []))) := op_struct Try.underlying25 (by kernel_rfl) (opFs_cons rfl (by kernel_rfl) op3 (opFs_cons rfl (by kernel_rfl) op9 opFs_nil))
theorem op50 : Opens Try.prog 50 3 (fun z : (Int × Int × ByteArray × Unit) => AV.agg ((AV.int .i64 z.1).cells ++ ((AV.int .i64 z.2.1).cells ++ ((AV.str z.2.2.1).cells ++ [])))) := op_struct Try.underlying50 (by kernel_rfl) (opFs_cons rfl (by kernel_rfl) op3 (opFs_cons rfl (by kernel_rfl) op3 (opFs_cons rfl (by kernel_rfl) op9 opFs_nil)))
theorem op23 : Opens Try.prog 23 1 (fun l : (List Go.TF.api_Pin) => AV.lst false false (l.map Go.TF.api_Pin.av)) := op_slice (n := 3) (e := 50) (by kernel_rfl) (by kernel_rfl) (by decide) (op50.map (g := Go.TF.api_Pin.av) (fun z => ⟨z.1, z.2.1, z.2.2.1⟩) (fun _ => rfl))
theorem op27 : Opens Try.prog 27 13 (fun z : (Int × Int × ByteArray × Int × Int × Int × Int × Int × (List Int) × (List Go.TF.api_Pin) × ByteArray × (Int × ByteArray × Unit) × Unit) => AV.agg ((AV.int .i64 z.1).cells ++ ((AV.int .i64 z.2.1).cells ++ ((AV.str z.2.2.1).cells ++ ((AV.int .i64 z.2.2.2.1).cells ++ ((AV.int .i64 z.2.2.2.2.1).cells ++ ((AV.int .i64 z.2.2.2.2.2.1).cells ++ ((AV.int .i64 z.2.2.2.2.2.2.1).cells ++ ((AV.int .i64 z.2.2.2.2.2.2.2.1).cells ++ ((AV.lst false false (List.map (AV.int .i64) z.2.2.2.2.2.2.2.2.1)).cells ++ ((AV.lst false false (List.map Go.TF.api_Pin.av z.2.2.2.2.2.2.2.2.2.1)).cells ++ ((AV.str z.2.2.2.2.2.2.2.2.2.2.1).cells ++ ((AV.agg ((AV.int .i64 z.2.2.2.2.2.2.2.2.2.2.2.1.1).cells ++ ((AV.str z.2.2.2.2.2.2.2.2.2.2.2.1.2.1).cells ++ []))).cells ++ []))))))))))))) := op_struct Try.underlying27 (by kernel_rfl) (opFs_cons rfl (by kernel_rfl) op3 (opFs_cons rfl (by kernel_rfl) op3 (opFs_cons rfl (by kernel_rfl) op9 (opFs_cons rfl (by kernel_rfl) op3 (opFs_cons rfl (by kernel_rfl) op3 (opFs_cons rfl (by kernel_rfl) op3 (opFs_cons rfl (by kernel_rfl) op3 (opFs_cons rfl (by kernel_rfl) op3 (opFs_cons rfl (by kernel_rfl) op22 (opFs_cons rfl (by kernel_rfl) op23 (opFs_cons rfl (by kernel_rfl) op9 (opFs_cons rfl (by kernel_rfl) op25 opFs_nil))))))))))))
theorem walk (v0 v1 : Value) (w : World) (w0 : ∃ a : (List Int), Rep (allZ w) (AV.lst false false (List.map (AV.int .i64) a)) v0) (w1 : ∃ a : (Int × Int × ByteArray × Int × Int × Int × Int × Int × (List Int) × (List Go.TF.api_Pin) × ByteArray × (Int × ByteArray × Unit) × Unit), Rep (allZ w) (AV.agg ((AV.int .i64 a.1).cells ++ ((AV.int .i64 a.2.1).cells ++ ((AV.str a.2.2.1).cells ++ ((AV.int .i64 a.2.2.2.1).cells ++ ((AV.int .i64 a.2.2.2.2.1).cells ++ ((AV.int .i64 a.2.2.2.2.2.1).cells ++ ((AV.int .i64 a.2.2.2.2.2.2.1).cells ++ ((AV.int .i64 a.2.2.2.2.2.2.2.1).cells ++ ((AV.lst false false (List.map (AV.int .i64) a.2.2.2.2.2.2.2.2.1)).cells ++ ((AV.lst false false (List.map Go.TF.api_Pin.av a.2.2.2.2.2.2.2.2.2.1)).cells ++ ((AV.str a.2.2.2.2.2.2.2.2.2.2.1).cells ++ ((AV.agg ((AV.int .i64 a.2.2.2.2.2.2.2.2.2.2.2.1.1).cells ++ ((AV.str a.2.2.2.2.2.2.2.2.2.2.2.1.2.1).cells ++ []))).cells ++ []))))))))))))) v1) :
    Calls Try.prog 3 #[v0, v1] w fun e w' => e = .returned (.bool true) ∧ Below w.heap.size w w' := by
  obtain ⟨x0, w0⟩ := w0
  obtain ⟨⟨x1, x2, x3, x4, x5, x6, x7, x8, x9, x10, x11, ⟨x12, x13, _⟩, _⟩, w1⟩ := w1
  have g1 : Fit _ ∧ Fit _ ∧ Fit _ ∧ Fit _ ∧ Fit _ ∧ Fit _ ∧ Fit _ ∧ Fit _ ∧ Fit _ ∧ Fit _ ∧ Fit _ ∧ Fit _ ∧ Fit _ ∧ True := w1.fit
  obtain ⟨k, hk⟩ := Go.TF.CasesVotes_ex x0 x1 x2 x3 x4 x5 x6 x7 x8 x9 x10 x11 x12 x13 w0.fit g1.2.2.2.2.2.2.2.2.1 g1.2.2.2.2.2.2.2.2.2.1
  exact (Go.TF.w_law23_CasesVotes k _ _ _ _ _ _ _ _ _ _ _ _ _ _ _ hk).use w #[v0, v1] (by simp only [RepVals]; exact ⟨_, _, rfl, w0, ⟨_, _, rfl, w1, rfl⟩⟩)
set_option maxRecDepth 100000 in
theorem lifted (os : Os) (started : os.Started) (H : Type) (enc : TypeId × Value → H) :
    ReturnsInHanded {} Try.checked os 3 .any (Rows.casesVotesSpec.pre6 enc Try.prog Try.f3 Rows.casesVotesRow.domain false) (Rows.casesVotesSpec.post enc Try.prog Try.f3 false true false false) := by
  refine returnsInHanded_of_change (C := Try.checked) own started (by kernel_rfl) Try.func3
    (ChangeSpec.witness6 (enc := enc) (C := Try.checked) false ⟨#[], #[.slice none 0 0, .agg #[.int .i64 0, .int .i64 0, .string ByteArray.empty, .int .i64 0, .int .i64 0, .int .i64 0, .int .i64 0, .int .i64 0, .slice none 0 0, .slice none 0 0, .string ByteArray.empty, .int .i64 0, .string ByteArray.empty]], []⟩ 8 (by kernel_rfl) (by kernel_rfl) (by kernel_rfl) (by kernel_rfl)) ?_
  intro W base args ds gs before hval0 hW hcnd _
  have hval : ∀ (j : Nat) t v, Try.f3.params[j]? = some t → args[j]? = some v → Value.okWide Try.prog W .any base t v := hval0
  have hW' := hW
  obtain ⟨p, q, hA0, hV, rfl, hfz, hnd⟩ := hW
  have hA : DataW.TrodAll enc Try.prog W 0 (fun _ => true) true Try.f3.params.toList args.toList ds p := hA0
  rw [Try.params3] at hA hval
  obtain ⟨v0, vs0, d0, ds0, p0, q0, hargs, rfl, rfl, h0, r0⟩ := trodAll_cons hA
  obtain ⟨v1, vs1, d1, ds1, p1, q1, rfl, rfl, rfl, h1, r1⟩ := trodAll_cons r0
  obtain ⟨rfl, rfl, rfl⟩ := trodAll_nil r1
  obtain rfl : args = #[v0, v1] := by cases args; simp_all
  obtain ⟨rfl, rfl⟩ := trodVars_none hV
  have lt0 : ∀ x ∈ p0, x.block < W.heap.size := by obtain ⟨m, hm⟩ := h0; exact DataW.trod_lt m _ _ _ hm
  have w0 := Opens.one op22 (fun _ => rfl) (isone_slice (e := 3) (by kernel_rfl) (hval 0 22 v0 rfl rfl)) h0
  have lt1 : ∀ x ∈ p1, x.block < W.heap.size := by obtain ⟨m, hm⟩ := h1; exact DataW.trod_lt m _ _ _ hm
  have w1 := Opens.agg op27 Try.underlying27 (fun _ => ⟨_, rfl⟩) (hval 1 27 v1 rfl rfl) h1
  refine (walk v0 v1 W w0 w1).mono fun e W' ⟨he, bel⟩ => ?_
  subst he
  exact ⟨_, rfl, _, _, _, [], _, [], hW', trodAll_mk1 (shut_bool (by kernel_rfl) _), (trodAll_cons_mk (Below.trod laidOut (by kernel_rfl) (of_decide_eq_true (by kernel_rfl)) h0 bel lt0) (trodAll_cons_mk (Below.trod laidOut (by kernel_rfl) (of_decide_eq_true (by kernel_rfl)) h1 bel lt1) trodAll_mk0)), rfl, bel.frame _, fun h => by cases h⟩
theorem ws_cons : ∀ (w r : List Char), (∀ c ∈ w, c ≠ (Char.ofNat 32)) → wordsSigns (w ++ (Char.ofNat 32) :: r) = w :: wordsSigns r
  | [], r, _ => rfl
  | c :: w, r, h => by
    have hc : c ≠ (Char.ofNat 32) := h c (by simp)
    have ih := ws_cons w r (fun x hx => h x (by simp [hx]))
    show wordsSigns (c :: (w ++ (Char.ofNat 32) :: r)) = _
    rw [wordsSigns, ih]
    exact hc
theorem ini : Try.pinned.checked.prog.initOrder.toList = (List.map Char.ofNat [104, 97, 114, 110, 101, 115, 115]) ++ (Char.ofNat 32) :: ((List.map Char.ofNat [52, 97, 57, 56, 51, 57, 52, 56, 97, 49, 97, 52, 100, 100, 55, 52, 48, 54, 98, 98, 53, 97, 55, 52, 101, 99, 102, 97, 55, 57, 55, 50, 51, 56, 102, 98, 49, 99, 97, 55, 56, 48, 52, 52, 48, 50, 55, 48, 57, 97, 52, 54, 53, 52, 56, 50, 101, 54, 53, 99, 100, 56, 49, 57]) ++ (Char.ofNat 32) :: ((List.map Char.ofNat [99, 117, 116]) ++ (Char.ofNat 32) :: (List.map Char.ofNat [97, 116, 32, 116, 114, 117, 115, 116, 102, 108, 111, 119, 47, 116, 114, 117, 115, 116, 102, 108, 111, 119, 108, 97, 119, 50, 51, 46, 67, 97, 115, 101, 115, 86, 111, 116, 101, 115, 32, 116, 114, 117, 115, 116, 102, 108, 111, 119, 47, 116, 114, 117, 115, 116, 102, 108, 111, 119, 108, 97, 119, 50, 51, 46, 67, 97, 115, 101, 115, 82, 97, 119, 32, 116, 114, 117, 115, 116, 102, 108, 111, 119, 47, 116, 114, 117, 115, 116, 102, 108, 111, 119, 108, 97, 119, 50, 51, 46, 67, 97, 115, 101, 115, 66, 97, 99, 107, 32, 116, 114, 117, 115, 116, 102, 108, 111, 119, 47, 116, 114, 117, 115, 116, 102, 108, 111, 119, 108, 97, 119, 50, 51, 46, 67, 97, 115, 101, 115, 79, 114, 100, 101, 114, 32, 116, 114, 117, 115, 116, 102, 108, 111, 119, 47, 116, 114, 117, 115, 116, 102, 108, 111, 119, 108, 97, 119, 50, 51, 46, 67, 97, 115, 101, 115, 65, 112, 97, 114, 116, 32, 116, 114, 117, 115, 116, 102, 108, 111, 119, 47, 116, 114, 117, 115, 116, 102, 108, 111, 119, 108, 97, 119, 50, 51, 46, 67, 97, 115, 101, 115, 70, 111, 114, 103, 101, 100]))) :=
  (congrArg String.toList (show Try.pinned.checked.prog.initOrder = String.ofList _ by kernel_rfl)).trans String.toList_ofList
theorem words : ∃ R, behindMainWord (wordsSigns Try.pinned.checked.prog.initOrder.toList) = (List.map Char.ofNat [99, 117, 116]) :: R := by
  rw [ini, ws_cons _ _ (by decide +kernel), ws_cons _ _ (by decide +kernel), ws_cons _ _ (by decide +kernel)]
  generalize wordsSigns (List.map Char.ofNat [97, 116, 32, 116, 114, 117, 115, 116, 102, 108, 111, 119, 47, 116, 114, 117, 115, 116, 102, 108, 111, 119, 108, 97, 119, 50, 51, 46, 67, 97, 115, 101, 115, 86, 111, 116, 101, 115, 32, 116, 114, 117, 115, 116, 102, 108, 111, 119, 47, 116, 114, 117, 115, 116, 102, 108, 111, 119, 108, 97, 119, 50, 51, 46, 67, 97, 115, 101, 115, 82, 97, 119, 32, 116, 114, 117, 115, 116, 102, 108, 111, 119, 47, 116, 114, 117, 115, 116, 102, 108, 111, 119, 108, 97, 119, 50, 51, 46, 67, 97, 115, 101, 115, 66, 97, 99, 107, 32, 116, 114, 117, 115, 116, 102, 108, 111, 119, 47, 116, 114, 117, 115, 116, 102, 108, 111, 119, 108, 97, 119, 50, 51, 46, 67, 97, 115, 101, 115, 79, 114, 100, 101, 114, 32, 116, 114, 117, 115, 116, 102, 108, 111, 119, 47, 116, 114, 117, 115, 116, 102, 108, 111, 119, 108, 97, 119, 50, 51, 46, 67, 97, 115, 101, 115, 65, 112, 97, 114, 116, 32, 116, 114, 117, 115, 116, 102, 108, 111, 119, 47, 116, 114, 117, 115, 116, 102, 108, 111, 119, 108, 97, 119, 50, 51, 46, 67, 97, 115, 101, 115, 70, 111, 114, 103, 101, 100]) = R
  exact ⟨R, by kernel_rfl⟩
theorem make_of (P : Program) (R : List (List Char)) (h : behindMainWord (wordsSigns P.initOrder.toList) = (List.map Char.ofNat [99, 117, 116]) :: R) : P.make = some .cut := by
  have e1 : (((List.map Char.ofNat [99, 117, 116]) : List Char) == "gc".toList || ((List.map Char.ofNat [99, 117, 116]) : List Char) == "spec".toList) = false := by decide +kernel
  have e2 : (((List.map Char.ofNat [99, 117, 116]) : List Char) == "cut".toList) = true := by decide +kernel
  unfold Program.make
  rw [h]
  dsimp only
  rw [e1, e2]
  simp
theorem lifts_of (P : Program) (R : List (List Char)) (h : behindMainWord (wordsSigns P.initOrder.toList) = (List.map Char.ofNat [99, 117, 116]) :: R) : P.liftsFinal = false := by
  unfold Program.liftsFinal Program.headLifts
  rw [h]
  kernel_rfl
theorem enter_of (P : Program) (R : List (List Char)) (h : behindMainWord (wordsSigns P.initOrder.toList) = (List.map Char.ofNat [99, 117, 116]) :: R) (e1 : P.laysLater = false) (e2 : P.bearsReflect = false) (e3 : P.doorFits [] = true) : P.mayEnter = true := by
  have e0 : stripLifts liftWords ((List.map Char.ofNat [99, 117, 116]) :: R) = ([], (List.map Char.ofNat [99, 117, 116]) :: R) := by kernel_rfl
  unfold Program.mayEnter
  rw [h]
  dsimp only
  rw [e0, e1, e2]
  dsimp only
  rw [e3]
  simp
theorem mayEnter : Try.pinned.checked.prog.mayEnter = true := by
  obtain ⟨R, h⟩ := words
  exact enter_of _ R h (by kernel_rfl) (by kernel_rfl) (by kernel_rfl)
theorem liftsFinal : Try.pinned.checked.prog.liftsFinal = false := by
  obtain ⟨R, h⟩ := words
  exact lifts_of _ R h
theorem make : Try.pinned.checked.prog.make = some .cut := by
  obtain ⟨R, h⟩ := words
  exact make_of _ R h


theorem joined : joinedFacts Try.pinned.checked.prog 3 Try.f3 Rows.casesVotesSpec Rows.casesVotesRow = true := by unfold joinedFacts; rw [mayEnter, liftsFinal, make]; kernel_rfl
theorem over : Rows.casesVotesRow.holds Try.pinned (OpenSpec.ofChange Rows.casesVotesSpec) :=
  OpenClaim.holds_of_wide 3 Try.f3 rfl rfl rfl rfl rfl rfl rfl ⟨rfl, rfl, rfl, rfl, rfl⟩ rfl rfl rfl rfl rfl (by kernel_rfl) Try.func3 joined
    (of_decide_eq_true (by kernel_rfl)) (by unfold Func.isWrapper; first | (rw [if_pos (by decide +kernel)]; kernel_rfl) | (rw [if_neg (by decide +kernel)]; exact ⟨rfl, rfl⟩))
    (fun os started H enc _ => lifted os started H enc)

/-- The statement. -/
theorem proved : Rows.CasesVotesSaid := over
#print axioms proved
end Go.Proofs.Yteclncnknklkfaa.casesVotes
