/- What is proved here: the given statement PathsMadeSaid of this seat, with no condition. -/
import Derived.Test.YtelffnegemdicaaRows
import Derived.WalkKit
import Derived.ProofKit
import Derived.OpenShut
import Derived.ShutString
import Derived.ChangeOld
import Derived.Below
import Derived.SizedLaws
import Derived.Test.YtelffnegemdicaaMdtLay25
import Derived.Test.YtelffnegemdicaaMdtLay26
import Derived.Test.YtelffnegemdicaaMdtWal35
import Derived.Test.YtelffnegemdicaaMdtPla36
import Derived.Test.YtelffnegemdicaaMdtPla37
import Derived.Test.YtelffnegemdicaaMdtPla38
import Derived.Test.YtelffnegemdicaaMdtPla39
namespace Go.Proofs.Ytelffnegemdicaa.pathsMade
open Go Go.ChangeShapes Go.WideShapes Go.ChangeAt Go.RowKit
open Go.Abs
set_option linter.unusedVariables false
set_option maxRecDepth 100000
theorem own : ownKnob Try.prog.godebug=none:=by kernel_rfl
theorem Ani : laidOutB Try.prog=true:=by kernel_rfl
theorem op3 : Aet Try.prog 3 1 (fun n : Int=>AV.int .i64 n):=AsC (k := .i64) (by kernel_rfl)
theorem AvK : Aet Try.prog 22 1 (fun l : (List Int)=>AV.lst false false (l.map (AV.int .i64))):=Aou (n:=1) (e:=3) (by kernel_rfl) (by kernel_rfl) (by decide) op3
theorem AvJ : Aet Try.prog 51 4 (fun l : {l : List Int // l.length=4} => AV.agg (l.1.map (AV.int .i64))):=Aov (by kernel_rfl) (by kernel_rfl) (by kernel_rfl) op3 (fun _=>rfl)
theorem AvG (v0 v1 : Value) (w : World) (w0 : ∃ a : (List Int),Rep (AmN w) (AV.lst false false (List.map (AV.int .i64) a)) v0) (w1 : ∃ a : {l : List Int // l.length=4},Rep (AmN w) (AV.agg (List.map (AV.int .i64) a.1)) v1) :
    Calls Try.prog 5 #[v0,v1] w fun e w'=>e = .returned (.bool true)∧Below w.heap.size w w':=by
  obtain ⟨x0,w0⟩:=w0
  obtain ⟨⟨x1,nx1⟩,w1⟩:=w1
  obtain ⟨k,hk⟩:=Go.TF.Ak8 x0 x1 w0.fit nx1
  exact (Go.TF.Ago k _ _ _ nx1 hk).use w #[v0,v1] (by simp only [AaF]; exact ⟨_,_,rfl,w0,⟨_,_,rfl,w1,rfl⟩⟩)
set_option maxRecDepth 100000 in
theorem AsV (os : Os) (started : os.Started) (H : Type) (enc : TypeId×Value→H) :
    ReturnsInHanded {} Try.checked os 5 .any (Rows.pathsMadeSpec.pre6 enc Try.prog Try.f5 Rows.pathsMadeRow.domain false) (Rows.pathsMadeSpec.post enc Try.prog Try.f5 false true false false):=by
  refine returnsInHanded_of_change (C:=Try.checked) own started (by kernel_rfl) Try.func5
    (ChangeSpec.witness6 (enc:=enc) (C:=Try.checked) false ⟨#[],#[.slice none 0 0,.agg #[.int .i64 0,.int .i64 0,.int .i64 0,.int .i64 0]],[]⟩ 8 (by kernel_rfl) (by kernel_rfl) (by kernel_rfl) (by kernel_rfl)) ?_
  intro W base args ds gs before hval0 hW hcnd _
  have hval : ∀ (j : Nat) t v,Try.f5.params[j]? = some t→args[j]? = some v→Value.okWide Try.prog W .any base t v:=hval0
  have hW':=hW
  obtain ⟨p,q,hA0,hV,rfl,hfz,hnd⟩:=hW
  have hA : DataW.TrodAll enc Try.prog W 0 (fun _=>true) true Try.f5.params.toList args.toList ds p:=hA0
  rw [Try.params5] at hA hval
  obtain ⟨v0,vs0,d0,ds0,p0,q0,hargs,rfl,rfl,h0,r0⟩:=trodAll_cons hA
  obtain ⟨v1,vs1,d1,ds1,p1,q1,rfl,rfl,rfl,h1,r1⟩:=trodAll_cons r0
  obtain ⟨rfl,rfl,rfl⟩:=trodAll_nil r1
  obtain rfl : args = #[v0,v1]:=by cases args; simp_all
  obtain ⟨rfl,rfl⟩:=trodVars_none hV
  have lt0 : ∀ x ∈ p0,x.block<W.heap.size:=by obtain ⟨m,hm⟩:=h0; exact DataW.trod_lt m _ _ _ hm
  have w0:=Aet.one AvK (fun _=>rfl) (Alg (e:=3) (by kernel_rfl) (hval 0 22 v0 rfl rfl)) h0
  have lt1 : ∀ x ∈ p1,x.block<W.heap.size:=by obtain ⟨m,hm⟩:=h1; exact DataW.trod_lt m _ _ _ hm
  have w1:=Aet.aggA AvJ Try.underlying51 (fun _=>⟨_,rfl⟩) (hval 1 51 v1 rfl rfl) h1
  refine (AvG v0 v1 W w0 w1).mono fun e W' ⟨he,bel⟩=>?_
  subst he
  exact ⟨_,rfl,_,_,_,[],_,[],hW',trodAll_mk1 (shut_bool (by kernel_rfl) _),(trodAll_cons_mk (Below.trod Ani (by kernel_rfl) (of_decide_eq_true (by kernel_rfl)) h0 bel lt0) (trodAll_cons_mk (Below.trod Ani (by kernel_rfl) (of_decide_eq_true (by kernel_rfl)) h1 bel lt1) trodAll_mk0)),rfl,bel.frame _,fun h=>by cases h⟩
theorem Ai2 : ∀ (w r : List Char),(∀ c ∈ w,c≠(Char.ofNat 32))→wordsSigns (w++(Char.ofNat 32)::r)=w::wordsSigns r
  | [],r,_=>rfl
  | c::w,r,h=>by
    have hc : c≠(Char.ofNat 32):=h c (by simp)
    have ih:=Ai2 w r (fun x hx=>h x (by simp [hx]))
    show wordsSigns (c::(w++(Char.ofNat 32)::r))=_
    rw [wordsSigns,ih]
    exact hc
theorem ini : Try.pinned.checked.prog.initOrder.toList=(List.map Char.ofNat [104,97,114,110,101,115,115])++(Char.ofNat 32)::((List.map Char.ofNat [97,101,97,101,57,51,53,55,57,100,48,49,48,55,97,101,53,57,50,53,97,56,56,51,53,99,54,100,51,54,55,102,99,102,101,52,97,51,48,99,97,55,100,52,56,57,100,50,101,57,48,52,97,51,101,102,52,100,55,101,55,56,98,52])++(Char.ofNat 32)::((List.map Char.ofNat [99,117,116])++(Char.ofNat 32)::(List.map Char.ofNat [97,116,32,116,114,117,115,116,102,108,111,119,47,116,114,117,115,116,102,108,111,119,108,97,119,49,53,46,70,108,111,119,83,101,114,118,101,115,32,116,114,117,115,116,102,108,111,119,47,116,114,117,115,116,102,108,111,119,108,97,119,49,53,46,70,108,111,119,70,101,119,101,114,32,116,114,117,115,116,102,108,111,119,47,116,114,117,115,116,102,108,111,119,108,97,119,49,57,46,80,97,116,104,115,77,97,100,101,32,116,114,117,115,116,102,108,111,119,47,116,114,117,115,116,102,108,111,119,108,97,119,49,57,46,80,97,116,104,115,67,104,101,99,107,115,32,116,114,117,115,116,102,108,111,119,47,116,114,117,115,116,102,108,111,119,108,97,119,49,57,46,80,97,116,104,115,84,97,107,101,110,32,116,114,117,115,116,102,108,111,119,47,116,114,117,115,116,102,108,111,119,108,97,119,49,57,46,80,97,116,104,115,77,111,114,101]))) :=
  (congrArg String.toList (show Try.pinned.checked.prog.initOrder=String.ofList _ by kernel_rfl)).trans String.toList_ofList
theorem Ap0 : ∃ R,behindMainWord (wordsSigns Try.pinned.checked.prog.initOrder.toList)=(List.map Char.ofNat [99,117,116])::R:=by
  rw [ini,Ai2 _ _ (by decide +kernel),Ai2 _ _ (by decide +kernel),Ai2 _ _ (by decide +kernel)]
  generalize wordsSigns (List.map Char.ofNat [97,116,32,116,114,117,115,116,102,108,111,119,47,116,114,117,115,116,102,108,111,119,108,97,119,49,53,46,70,108,111,119,83,101,114,118,101,115,32,116,114,117,115,116,102,108,111,119,47,116,114,117,115,116,102,108,111,119,108,97,119,49,53,46,70,108,111,119,70,101,119,101,114,32,116,114,117,115,116,102,108,111,119,47,116,114,117,115,116,102,108,111,119,108,97,119,49,57,46,80,97,116,104,115,77,97,100,101,32,116,114,117,115,116,102,108,111,119,47,116,114,117,115,116,102,108,111,119,108,97,119,49,57,46,80,97,116,104,115,67,104,101,99,107,115,32,116,114,117,115,116,102,108,111,119,47,116,114,117,115,116,102,108,111,119,108,97,119,49,57,46,80,97,116,104,115,84,97,107,101,110,32,116,114,117,115,116,102,108,111,119,47,116,114,117,115,116,102,108,111,119,108,97,119,49,57,46,80,97,116,104,115,77,111,114,101])=R
  exact ⟨R,by kernel_rfl⟩
theorem Aqh (P : Program) (R : List (List Char)) (h : behindMainWord (wordsSigns P.initOrder.toList)=(List.map Char.ofNat [99,117,116])::R) : P.make=some .cut:=by
  have e1 : (((List.map Char.ofNat [99,117,116]) : List Char) == "gc".toList||((List.map Char.ofNat [99,117,116]) : List Char) == "spec".toList)=false:=by decide +kernel
  have e2 : (((List.map Char.ofNat [99,117,116]) : List Char) == "cut".toList)=true:=by decide +kernel
  unfold Program.make
  rw [h]
  dsimp only
  rw [e1,e2]
  simp
theorem Ao4 (P : Program) (R : List (List Char)) (h : behindMainWord (wordsSigns P.initOrder.toList)=(List.map Char.ofNat [99,117,116])::R) : P.liftsFinal=false:=by
  unfold Program.liftsFinal Program.headLifts
  rw [h]
  kernel_rfl
theorem ApH (P : Program) (R : List (List Char)) (h : behindMainWord (wordsSigns P.initOrder.toList)=(List.map Char.ofNat [99,117,116])::R) (e1 : P.laysLater=false) (e2 : P.bearsReflect=false) (e3 : P.doorFits []=true) : P.mayEnter=true:=by
  have e0 : stripLifts liftWords ((List.map Char.ofNat [99,117,116])::R)=([],(List.map Char.ofNat [99,117,116])::R):=by kernel_rfl
  unfold Program.mayEnter
  rw [h]
  dsimp only
  rw [e0,e1,e2]
  dsimp only
  rw [e3]
  simp
theorem mayEnter : Try.pinned.checked.prog.mayEnter=true:=by
  obtain ⟨R,h⟩:=Ap0
  exact ApH _ R h (by kernel_rfl) (by kernel_rfl) (by kernel_rfl)
theorem liftsFinal : Try.pinned.checked.prog.liftsFinal=false:=by
  obtain ⟨R,h⟩:=Ap0
  exact Ao4 _ R h
theorem make : Try.pinned.checked.prog.make=some .cut:=by
  obtain ⟨R,h⟩:=Ap0
  exact Aqh _ R h


theorem AsW : joinedFacts Try.pinned.checked.prog 5 Try.f5 Rows.pathsMadeSpec Rows.pathsMadeRow=true:=by unfold joinedFacts; rw [mayEnter,liftsFinal,make]; kernel_rfl
theorem over : Rows.pathsMadeRow.holds Try.pinned (OpenSpec.ofChange Rows.pathsMadeSpec) :=
  OpenClaim.holds_of_wide 5 Try.f5 rfl rfl rfl rfl rfl rfl rfl ⟨rfl,rfl,rfl,rfl,rfl⟩ rfl rfl rfl rfl rfl (by kernel_rfl) Try.func5 AsW
    (of_decide_eq_true (by kernel_rfl)) (by unfold Func.isWrapper; first | (rw [if_pos (by decide +kernel)]; kernel_rfl) | (rw [if_neg (by decide +kernel)]; exact ⟨rfl,rfl⟩))
    (fun os started H enc _=>AsV os started H enc)

theorem proved : Rows.PathsMadeSaid:=over
#print axioms proved
end Go.Proofs.Ytelffnegemdicaa.pathsMade
