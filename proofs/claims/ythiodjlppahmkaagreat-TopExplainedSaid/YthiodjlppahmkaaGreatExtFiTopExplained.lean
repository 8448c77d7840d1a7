/- What is proved here: the given statement TopExplainedSaid of this seat, with no condition. -/
import Derived.Test.YthiodjlppahmkaaGreatRows
import Derived.WalkKit
import Derived.ProofKit
import Derived.OpenShut
import Derived.ShutString
import Derived.ChangeOld
import Derived.Below
import Derived.SizedLaws
import Derived.Test.YthiodjlppahmkaaGreatExtLay25
import Derived.Test.YthiodjlppahmkaaGreatExtWal40
import Derived.Test.YthiodjlppahmkaaGreatExtPla41
import Derived.Test.YthiodjlppahmkaaGreatExtPla42
import Derived.Test.YthiodjlppahmkaaGreatExtPla43
namespace Go.Proofs.YthiodjlppahmkaaGreat.topExplained
open Go Go.ChangeShapes Go.WideShapes Go.ChangeAt Go.RowKit
open Go.Abs
set_option linter.unusedVariables false
set_option maxRecDepth 100000
theorem own : ownKnob Tryz.prog.godebug=none:=by kernel_rfl
theorem AtV : laidOutB Tryz.prog=true:=by kernel_rfl
theorem op3 : Ahm Tryz.prog 3 1 (fun n : Int=>AV.int .i64 n):=AvL (k := .i64) (by kernel_rfl)
theorem Aya : Ahm Tryz.prog 22 1 (fun l : (List Int)=>AV.lst false false (l.map (AV.int .i64))):=Ard (n:=1) (e:=3) (by kernel_rfl) (by kernel_rfl) (by decide) op3
theorem AyX (v0 : Value) (w : World) (w0 : ∃ a : (List Int),Rep (Aq1 w) (AV.lst false false (List.map (AV.int .i64) a)) v0) :
    Calls Tryz.prog 3 #[v0] w fun e w'=>e = .returned (.bool true)∧Below w.heap.size w w':=by
  obtain ⟨x0,w0⟩:=w0
  obtain ⟨k,hk⟩:=Go.TF.AjH x0 w0.fit
  exact (Go.TF.Agn k _ _ hk).use w #[v0] (by simp only [AaD]; exact ⟨_,_,rfl,w0,rfl⟩)
set_option maxRecDepth 100000 in
theorem AvY (os : Os) (started : os.Started) (H : Type) (enc : TypeId×Value→H) :
    ReturnsInHanded {} Tryz.checked os 3 .any (Rows.topExplainedSpec.pre6 enc Tryz.prog Tryz.f3 Rows.topExplainedRow.domain false) (Rows.topExplainedSpec.post enc Tryz.prog Tryz.f3 false true false false):=by
  refine returnsInHanded_of_change (C:=Tryz.checked) own started (by kernel_rfl) Tryz.func3
    (ChangeSpec.witness6 (enc:=enc) (C:=Tryz.checked) false ⟨#[],#[.slice none 0 0],[]⟩ 8 (by kernel_rfl) (by kernel_rfl) (by kernel_rfl) (by kernel_rfl)) ?_
  intro W base args ds gs before hval0 hW hcnd _
  have hval : ∀ (j : Nat) t v,Tryz.f3.params[j]? = some t→args[j]? = some v→Value.okWide Tryz.prog W .any base t v:=hval0
  have hW':=hW
  obtain ⟨p,q,hA0,hV,rfl,hfz,hnd⟩:=hW
  have hA : DataW.TrodAll enc Tryz.prog W 0 (fun _=>true) true Tryz.f3.params.toList args.toList ds p:=hA0
  rw [Tryz.params3] at hA hval
  obtain ⟨v0,vs0,d0,ds0,p0,q0,hargs,rfl,rfl,h0,r0⟩:=trodAll_cons hA
  obtain ⟨rfl,rfl,rfl⟩:=trodAll_nil r0
  obtain rfl : args = #[v0]:=by cases args; simp_all
  obtain ⟨rfl,rfl⟩:=trodVars_none hV
  have lt0 : ∀ x ∈ p0,x.block<W.heap.size:=by obtain ⟨m,hm⟩:=h0; exact DataW.trod_lt m _ _ _ hm
  have w0:=Ahm.one Aya (fun _=>rfl) (AnF (e:=3) (by kernel_rfl) (hval 0 22 v0 rfl rfl)) h0
  refine (AyX v0 W w0).mono fun e W' ⟨he,bel⟩=>?_
  subst he
  exact ⟨_,rfl,_,_,_,[],_,[],hW',trodAll_mk1 (shut_bool (by kernel_rfl) _),(trodAll_cons_mk (Below.trod AtV (by kernel_rfl) (of_decide_eq_true (by kernel_rfl)) h0 bel lt0) trodAll_mk0),rfl,bel.frame _,fun h=>by cases h⟩
theorem AkD : ∀ (w r : List Char),(∀ c ∈ w,c≠(Char.ofNat 32))→wordsSigns (w++(Char.ofNat 32)::r)=w::wordsSigns r
  | [],r,_=>rfl
  | c::w,r,h=>by
    have hc : c≠(Char.ofNat 32):=h c (by simp)
    have ih:=AkD w r (fun x hx=>h x (by simp [hx]))
    show wordsSigns (c::(w++(Char.ofNat 32)::r))=_
    rw [wordsSigns,ih]
    exact hc
theorem ini : Tryz.pinned.checked.prog.initOrder.toList=(List.map Char.ofNat [104,97,114,110,101,115,115])++(Char.ofNat 32)::((List.map Char.ofNat [97,97,51,100,53,49,102,99,49,50,53,100,57,56,57,53,53,55,56,99,100,101,99,100,57,100,55,48,57,49,57,99,55,57,51,57,49,102,56,48,99,99,101,52,98,52,52,49,99,99,56,100,52,98,101,48,97,101,98,55,101,51,102,51])++(Char.ofNat 32)::((List.map Char.ofNat [99,117,116])++(Char.ofNat 32)::(List.map Char.ofNat [97,116,32,116,114,117,115,116,102,108,111,119,47,116,114,117,115,116,102,108,111,119,116,111,112,46,84,111,112,69,120,112,108,97,105,110,101,100]))) :=
  (congrArg String.toList (show Tryz.pinned.checked.prog.initOrder=String.ofList _ by kernel_rfl)).trans String.toList_ofList
theorem Asu : ∃ R,behindMainWord (wordsSigns Tryz.pinned.checked.prog.initOrder.toList)=(List.map Char.ofNat [99,117,116])::R:=by
  rw [ini,AkD _ _ (by decide +kernel),AkD _ _ (by decide +kernel),AkD _ _ (by decide +kernel)]
  generalize wordsSigns (List.map Char.ofNat [97,116,32,116,114,117,115,116,102,108,111,119,47,116,114,117,115,116,102,108,111,119,116,111,112,46,84,111,112,69,120,112,108,97,105,110,101,100])=R
  exact ⟨R,by kernel_rfl⟩
theorem AtT (P : Program) (R : List (List Char)) (h : behindMainWord (wordsSigns P.initOrder.toList)=(List.map Char.ofNat [99,117,116])::R) : P.make=some .cut:=by
  have e1 : (((List.map Char.ofNat [99,117,116]) : List Char) == "gc".toList||((List.map Char.ofNat [99,117,116]) : List Char) == "spec".toList)=false:=by decide +kernel
  have e2 : (((List.map Char.ofNat [99,117,116]) : List Char) == "cut".toList)=true:=by decide +kernel
  unfold Program.make
  rw [h]
  dsimp only
  rw [e1,e2]
  simp
theorem Ark (P : Program) (R : List (List Char)) (h : behindMainWord (wordsSigns P.initOrder.toList)=(List.map Char.ofNat [99,117,116])::R) : P.liftsFinal=false:=by
  unfold Program.liftsFinal Program.headLifts
  rw [h]
  kernel_rfl
theorem Arz (P : Program) (R : List (List Char)) (h : behindMainWord (wordsSigns P.initOrder.toList)=(List.map Char.ofNat [99,117,116])::R) (e1 : P.laysLater=false) (e2 : P.bearsReflect=false) (e3 : P.doorFits []=true) : P.mayEnter=true:=by
  have e0 : stripLifts liftWords ((List.map Char.ofNat [99,117,116])::R)=([],(List.map Char.ofNat [99,117,116])::R):=by kernel_rfl
  unfold Program.mayEnter
  rw [h]
  dsimp only
  rw [e0,e1,e2]
  dsimp only
  rw [e3]
  simp
theorem mayEnter : Tryz.pinned.checked.prog.mayEnter=true:=by
  obtain ⟨R,h⟩:=Asu
  exact Arz _ R h (by kernel_rfl) (by kernel_rfl) (by kernel_rfl)
theorem liftsFinal : Tryz.pinned.checked.prog.liftsFinal=false:=by
  obtain ⟨R,h⟩:=Asu
  exact Ark _ R h
theorem make : Tryz.pinned.checked.prog.make=some .cut:=by
  obtain ⟨R,h⟩:=Asu
  exact AtT _ R h


theorem Ava : joinedFacts Tryz.pinned.checked.prog 3 Tryz.f3 Rows.topExplainedSpec Rows.topExplainedRow=true:=by unfold joinedFacts; rw [mayEnter,liftsFinal,make]; kernel_rfl
theorem over : Rows.topExplainedRow.holds Tryz.pinned (OpenSpec.ofChange Rows.topExplainedSpec) :=
  OpenClaim.holds_of_wide 3 Tryz.f3 rfl rfl rfl rfl rfl rfl rfl ⟨rfl,rfl,rfl,rfl,rfl⟩ rfl rfl rfl rfl rfl (by kernel_rfl) Tryz.func3 Ava
    (of_decide_eq_true (by kernel_rfl)) (by unfold Func.isWrapper; first | (rw [if_pos (by decide +kernel)]; kernel_rfl) | (rw [if_neg (by decide +kernel)]; exact ⟨rfl,rfl⟩))
    (fun os started H enc _=>AvY os started H enc)

theorem proved : Rows.TopExplainedSaid:=over
#print axioms proved
end Go.Proofs.YthiodjlppahmkaaGreat.topExplained
