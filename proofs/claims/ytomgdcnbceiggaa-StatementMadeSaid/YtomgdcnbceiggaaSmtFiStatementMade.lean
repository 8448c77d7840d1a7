/- What is proved here: the given statement StatementMadeSaid of this seat, with no condition. -/
import Derived.Test.YtomgdcnbceiggaaRows
import Derived.WalkKit
import Derived.ProofKit
import Derived.OpenShut
import Derived.ShutString
import Derived.ChangeOld
import Derived.Below
import Derived.SizedLaws
import Derived.Test.YtomgdcnbceiggaaSmtLay25
import Derived.Test.YtomgdcnbceiggaaSmtWal37
import Derived.Test.YtomgdcnbceiggaaSmtPla38
import Derived.Test.YtomgdcnbceiggaaSmtPla39
namespace Go.Proofs.Ytomgdcnbceiggaa.statementMade
open Go Go.ChangeShapes Go.WideShapes Go.ChangeAt Go.RowKit
open Go.Abs
set_option linter.unusedVariables false
set_option maxRecDepth 100000
theorem own : ownKnob Try.prog.godebug=none:=by kernel_rfl
theorem Akf : laidOutB Try.prog=true:=by kernel_rfl
theorem op3 : Af7 Try.prog 3 1 (fun n : Int=>AV.int .i64 n):=AqL (k := .i64) (by kernel_rfl)
theorem AtA : Af7 Try.prog 22 1 (fun l : (List Int)=>AV.lst false false (l.map (AV.int .i64))):=Ani (n:=1) (e:=3) (by kernel_rfl) (by kernel_rfl) (by decide) op3
theorem As6 (v0 v1 v2 : Value) (w : World) (w0 : ∃ a : (List Int),Rep (Alr w) (AV.lst false false (List.map (AV.int .i64) a)) v0) (w1 : ∃ a : Int,Rep (Alr w) (AV.int .i64 a) v1) (w2 : ∃ a : Int,Rep (Alr w) (AV.int .i64 a) v2) :
    Calls Try.prog 6 #[v0,v1,v2] w fun e w'=>e = .returned (.bool true)∧Below w.heap.size w w':=by
  obtain ⟨x0,w0⟩:=w0
  obtain ⟨x1,w1⟩:=w1
  obtain ⟨x2,w2⟩:=w2
  obtain ⟨k,hk⟩:=Go.TF.AhD x0 x1 x2 w0.fit w1.fit w2.fit
  exact (Go.TF.AfM k _ _ _ _ hk).use w #[v0,v1,v2] (by simp only [AaF]; exact ⟨_,_,rfl,w0,⟨_,_,rfl,w1,⟨_,_,rfl,w2,rfl⟩⟩⟩)
set_option maxRecDepth 100000 in
theorem AqT (os : Os) (started : os.Started) (H : Type) (enc : TypeId×Value→H) :
    ReturnsInHanded {} Try.checked os 6 .any (Rows.statementMadeSpec.pre6 enc Try.prog Try.f6 Rows.statementMadeRow.domain false) (Rows.statementMadeSpec.post enc Try.prog Try.f6 false true false false):=by
  refine returnsInHanded_of_change (C:=Try.checked) own started (by kernel_rfl) Try.func6
    (ChangeSpec.witness6 (enc:=enc) (C:=Try.checked) false ⟨#[],#[.slice none 0 0,.int .i64 0,.int .i64 0],[]⟩ 8 (by kernel_rfl) (by kernel_rfl) (by kernel_rfl) (by kernel_rfl)) ?_
  intro W base args ds gs before hval0 hW hcnd _
  have hval : ∀ (j : Nat) t v,Try.f6.params[j]? = some t→args[j]? = some v→Value.okWide Try.prog W .any base t v:=hval0
  have hW':=hW
  obtain ⟨p,q,hA0,hV,rfl,hfz,hnd⟩:=hW
  have hA : DataW.TrodAll enc Try.prog W 0 (fun _=>true) true Try.f6.params.toList args.toList ds p:=hA0
  rw [Try.params6] at hA hval
  obtain ⟨v0,vs0,d0,ds0,p0,q0,hargs,rfl,rfl,h0,r0⟩:=trodAll_cons hA
  obtain ⟨v1,vs1,d1,ds1,p1,q1,rfl,rfl,rfl,h1,r1⟩:=trodAll_cons r0
  obtain ⟨v2,vs2,d2,ds2,p2,q2,rfl,rfl,rfl,h2,r2⟩:=trodAll_cons r1
  obtain ⟨rfl,rfl,rfl⟩:=trodAll_nil r2
  obtain rfl : args = #[v0,v1,v2]:=by cases args; simp_all
  obtain ⟨rfl,rfl⟩:=trodVars_none hV
  have lt0 : ∀ x ∈ p0,x.block<W.heap.size:=by obtain ⟨m,hm⟩:=h0; exact DataW.trod_lt m _ _ _ hm
  have w0:=Af7.one AtA (fun _=>rfl) (Akg (e:=3) (by kernel_rfl) (hval 0 22 v0 rfl rfl)) h0
  have lt1 : ∀ x ∈ p1,x.block<W.heap.size:=by obtain ⟨m,hm⟩:=h1; exact DataW.trod_lt m _ _ _ hm
  have w1:=Af7.one op3 (fun _=>rfl) (Ajy (k := .i64) (by kernel_rfl) (hval 1 3 v1 rfl rfl)) h1
  have lt2 : ∀ x ∈ p2,x.block<W.heap.size:=by obtain ⟨m,hm⟩:=h2; exact DataW.trod_lt m _ _ _ hm
  have w2:=Af7.one op3 (fun _=>rfl) (Ajy (k := .i64) (by kernel_rfl) (hval 2 3 v2 rfl rfl)) h2
  refine (As6 v0 v1 v2 W w0 w1 w2).mono fun e W' ⟨he,bel⟩=>?_
  subst he
  exact ⟨_,rfl,_,_,_,[],_,[],hW',trodAll_mk1 (shut_bool (by kernel_rfl) _),(trodAll_cons_mk (Below.trod Akf (by kernel_rfl) (of_decide_eq_true (by kernel_rfl)) h0 bel lt0) (trodAll_cons_mk (Below.trod Akf (by kernel_rfl) (of_decide_eq_true (by kernel_rfl)) h1 bel lt1) (trodAll_cons_mk (Below.trod Akf (by kernel_rfl) (of_decide_eq_true (by kernel_rfl)) h2 bel lt2) trodAll_mk0))),rfl,bel.frame _,fun h=>by cases h⟩
theorem Ail : ∀ (w r : List Char),(∀ c ∈ w,c≠(Char.ofNat 32))→wordsSigns (w++(Char.ofNat 32)::r)=w::wordsSigns r
  | [],r,_=>rfl
  | c::w,r,h=>by
    have hc : c≠(Char.ofNat 32):=h c (by simp)
    have ih:=Ail w r (fun x hx=>h x (by simp [hx]))
    show wordsSigns (c::(w++(Char.ofNat 32)::r))=_
    rw [wordsSigns,ih]
    exact hc
theorem ini : Try.pinned.checked.prog.initOrder.toList=(List.map Char.ofNat [104,97,114,110,101,115,115])++(Char.ofNat 32)::((List.map Char.ofNat [57,99,99,98,56,55,54,99,51,101,102,101,99,51,98,98,101,57,53,57,99,57,98,53,53,99,55,101,48,102,50,98,50,53,50,51,100,49,97,97,57,54,53,53,99,49,48,97,53,53,102,50,54,97,53,102,51,49,54,53,102,57,53,48])++(Char.ofNat 32)::((List.map Char.ofNat [99,117,116])++(Char.ofNat 32)::(List.map Char.ofNat [97,116,32,116,114,117,115,116,102,108,111,119,47,116,114,117,115,116,102,108,111,119,108,97,119,50,52,46,82,111,115,116,101,114,82,117,108,101,115,32,116,114,117,115,116,102,108,111,119,47,116,114,117,115,116,102,108,111,119,108,97,119,50,53,46,66,101,97,99,111,110,82,117,108,101,115,32,116,114,117,115,116,102,108,111,119,47,116,114,117,115,116,102,108,111,119,108,97,119,48,51,46,83,116,97,116,101,109,101,110,116,82,97,119,32,116,114,117,115,116,102,108,111,119,47,116,114,117,115,116,102,108,111,119,108,97,119,48,51,46,83,116,97,116,101,109,101,110,116,77,97,100,101]))) :=
  (congrArg String.toList (show Try.pinned.checked.prog.initOrder=String.ofList _ by kernel_rfl)).trans String.toList_ofList
theorem Ag4 : ∃ R,behindMainWord (wordsSigns Try.pinned.checked.prog.initOrder.toList)=(List.map Char.ofNat [99,117,116])::R:=by
  rw [ini,Ail _ _ (by decide +kernel),Ail _ _ (by decide +kernel),Ail _ _ (by decide +kernel)]
  generalize wordsSigns (List.map Char.ofNat [97,116,32,116,114,117,115,116,102,108,111,119,47,116,114,117,115,116,102,108,111,119,108,97,119,50,52,46,82,111,115,116,101,114,82,117,108,101,115,32,116,114,117,115,116,102,108,111,119,47,116,114,117,115,116,102,108,111,119,108,97,119,50,53,46,66,101,97,99,111,110,82,117,108,101,115,32,116,114,117,115,116,102,108,111,119,47,116,114,117,115,116,102,108,111,119,108,97,119,48,51,46,83,116,97,116,101,109,101,110,116,82,97,119,32,116,114,117,115,116,102,108,111,119,47,116,114,117,115,116,102,108,111,119,108,97,119,48,51,46,83,116,97,116,101,109,101,110,116,77,97,100,101])=R
  exact ⟨R,by kernel_rfl⟩
theorem Aon (P : Program) (R : List (List Char)) (h : behindMainWord (wordsSigns P.initOrder.toList)=(List.map Char.ofNat [99,117,116])::R) : P.make=some .cut:=by
  have e1 : (((List.map Char.ofNat [99,117,116]) : List Char) == "gc".toList||((List.map Char.ofNat [99,117,116]) : List Char) == "spec".toList)=false:=by decide +kernel
  have e2 : (((List.map Char.ofNat [99,117,116]) : List Char) == "cut".toList)=true:=by decide +kernel
  unfold Program.make
  rw [h]
  dsimp only
  rw [e1,e2]
  simp
theorem Ann (P : Program) (R : List (List Char)) (h : behindMainWord (wordsSigns P.initOrder.toList)=(List.map Char.ofNat [99,117,116])::R) : P.liftsFinal=false:=by
  unfold Program.liftsFinal Program.headLifts
  rw [h]
  kernel_rfl
theorem Anv (P : Program) (R : List (List Char)) (h : behindMainWord (wordsSigns P.initOrder.toList)=(List.map Char.ofNat [99,117,116])::R) (e1 : P.laysLater=false) (e2 : P.bearsReflect=false) (e3 : P.doorFits []=true) : P.mayEnter=true:=by
  have e0 : stripLifts liftWords ((List.map Char.ofNat [99,117,116])::R)=([],(List.map Char.ofNat [99,117,116])::R):=by kernel_rfl
  unfold Program.mayEnter
  rw [h]
  dsimp only
  rw [e0,e1,e2]
  dsimp only
  rw [e3]
  simp
theorem mayEnter : Try.pinned.checked.prog.mayEnter=true:=by
  obtain ⟨R,h⟩:=Ag4
  exact Anv _ R h (by kernel_rfl) (by kernel_rfl) (by kernel_rfl)
theorem liftsFinal : Try.pinned.checked.prog.liftsFinal=false:=by
  obtain ⟨R,h⟩:=Ag4
  exact Ann _ R h
theorem make : Try.pinned.checked.prog.make=some .cut:=by
  obtain ⟨R,h⟩:=Ag4
  exact Aon _ R h


theorem AqX : joinedFacts Try.pinned.checked.prog 6 Try.f6 Rows.statementMadeSpec Rows.statementMadeRow=true:=by unfold joinedFacts; rw [mayEnter,liftsFinal,make]; kernel_rfl
theorem over : Rows.statementMadeRow.holds Try.pinned (OpenSpec.ofChange Rows.statementMadeSpec) :=
  OpenClaim.holds_of_wide 6 Try.f6 rfl rfl rfl rfl rfl rfl rfl ⟨rfl,rfl,rfl,rfl,rfl⟩ rfl rfl rfl rfl rfl (by kernel_rfl) Try.func6 AqX
    (of_decide_eq_true (by kernel_rfl)) (by unfold Func.isWrapper; first | (rw [if_pos (by decide +kernel)]; kernel_rfl) | (rw [if_neg (by decide +kernel)]; exact ⟨rfl,rfl⟩))
    (fun os started H enc _=>AqT os started H enc)

theorem proved : Rows.StatementMadeSaid:=over
#print axioms proved
end Go.Proofs.Ytomgdcnbceiggaa.statementMade
