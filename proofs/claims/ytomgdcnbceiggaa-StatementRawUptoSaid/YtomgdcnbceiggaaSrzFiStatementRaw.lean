/- What is proved here: the given statement StatementRawSaid of this seat, with no condition. -/
import Derived.Test.YtomgdcnbceiggaaRows
import Derived.WalkKit
import Derived.ProofKit
import Derived.OpenShut
import Derived.ShutString
import Derived.ChangeOld
import Derived.Below
import Derived.SizedLaws
import Derived.JoinedCond
import Derived.Test.YtomgdcnbceiggaaSrzLay25
import Derived.Test.YtomgdcnbceiggaaSrzLay26
import Derived.Test.YtomgdcnbceiggaaSrzWal36
import Derived.Test.YtomgdcnbceiggaaSrzPla37
import Derived.Test.YtomgdcnbceiggaaSrzPla38
namespace Go.Proofs.Ytomgdcnbceiggaa.statementRaw
open Go Go.ChangeShapes Go.WideShapes Go.ChangeAt Go.RowKit
open Go.Abs
set_option linter.unusedVariables false
set_option maxRecDepth 100000
theorem own : ownKnob Try.prog.godebug=none:=by kernel_rfl
theorem Ajx : laidOutB Try.prog=true:=by kernel_rfl
theorem op9 : Aco Try.prog 9 1 (fun s : ByteArray=>AV.str s):=Apb (by kernel_rfl)
theorem op3 : Aco Try.prog 3 1 (fun n : Int=>AV.int .i64 n):=AnW (k := .i64) (by kernel_rfl)
theorem AsP : Aco Try.prog 41 2 (fun z : (Int×ByteArray×Unit)=>AV.agg ((AV.int .i64 z.1).cells++((AV.str z.2.1).cells++[]))):=Alr Try.underlying41 (by kernel_rfl) (AjE rfl (by kernel_rfl) op3 (AjE rfl (by kernel_rfl) op9 Am1))
theorem AsQ : Aco Try.prog 22 1 (fun l : (List Int)=>AV.lst false false (l.map (AV.int .i64))):=AkV (n:=1) (e:=3) (by kernel_rfl) (by kernel_rfl) (by decide) op3
theorem op5 : Aco Try.prog 5 1 (fun n : Int=>AV.int .u8 n):=AnW (k := .u8) (by kernel_rfl)
theorem AsO : Aco Try.prog 44 1 (fun l : (List Int)=>AV.lst false false (l.map (AV.int .u8))):=AkV (n:=1) (e:=5) (by kernel_rfl) (by kernel_rfl) (by decide) op5
theorem Aj4 {H : Type} : ∀ l : List (DataW H),Rows.uptoBulkAll l=(l.map Rows.uptoBulk).sum
  | []=>by simp [Rows.uptoBulkAll]
  | d::l=>by rw [Rows.uptoBulkAll,Aj4 l]; rfl
theorem AnE : Aql (fun H=>Rows.uptoBulk (H:=H)):=⟨fun H b=>by simp only [Rows.uptoBulk]; omega,fun H es sp=>by simp only [Rows.uptoBulk,Aj4]; omega,fun H ps=>by simp only [Rows.uptoBulk,Aj4]; omega⟩
theorem AsM : Adi (fun H=>Rows.uptoBulk (H:=H)) Try.prog 56 3 (fun z : (Int×Int×ByteArray×Unit)=>AV.agg ((AV.int .i64 z.1).cells++((AV.int .i64 z.2.1).cells++((AV.str z.2.2.1).cells++[])))) (fun z=>(0+(0+(z.2.2.1.size+0)))):=Ai2 AnE Try.underlying56 (by kernel_rfl) (Abl rfl (by kernel_rfl) (Aco.w0 op3) (Abl rfl (by kernel_rfl) (Aco.w0 op3) (Abl rfl (by kernel_rfl) (ApZ AnE (by kernel_rfl)) AjF)))
theorem AsN : Adi (fun H=>Rows.uptoBulk (H:=H)) Try.prog 39 1 (fun l : (List Go.TF.AaA)=>AV.lst false false (l.map Go.TF.AaA.av)) (fun l=>(List.map (fun p : Go.TF.AaA=>p.Digest.size) l).sum):=Amx AnE (n:=3) (e:=56) (by kernel_rfl) (by kernel_rfl) (by decide) (AsM.map (g:=Go.TF.AaA.av) (ν:=fun p=>p.Digest.size) (fun z=>⟨z.1,z.2.1,z.2.2.1⟩) (fun _=>rfl) (fun z=>by simp))
theorem Art : Adi (fun H=>Rows.uptoBulk (H:=H)) Try.prog 43 13 (fun z : (Int×Int×ByteArray×Int×Int×Int×Int×Int×(List Int)×(List Go.TF.AaA)×ByteArray×(Int×ByteArray×Unit)×Unit)=>AV.agg ((AV.int .i64 z.1).cells++((AV.int .i64 z.2.1).cells++((AV.str z.2.2.1).cells++((AV.int .i64 z.2.2.2.1).cells++((AV.int .i64 z.2.2.2.2.1).cells++((AV.int .i64 z.2.2.2.2.2.1).cells++((AV.int .i64 z.2.2.2.2.2.2.1).cells++((AV.int .i64 z.2.2.2.2.2.2.2.1).cells++((AV.lst false false (List.map (AV.int .i64) z.2.2.2.2.2.2.2.2.1)).cells++((AV.lst false false (List.map Go.TF.AaA.av z.2.2.2.2.2.2.2.2.2.1)).cells++((AV.str z.2.2.2.2.2.2.2.2.2.2.1).cells++((AV.agg ((AV.int .i64 z.2.2.2.2.2.2.2.2.2.2.2.1.1).cells++((AV.str z.2.2.2.2.2.2.2.2.2.2.2.1.2.1).cells++[]))).cells++[]))))))))))))) (fun z=>(0+(0+(0+(0+(0+(0+(0+(0+(0+((List.map (fun p : Go.TF.AaA=>p.Digest.size) z.2.2.2.2.2.2.2.2.2.1).sum+(0+((0+(0+0))+0))))))))))))):=Ai2 AnE Try.underlying43 (by kernel_rfl) (Abl rfl (by kernel_rfl) (Aco.w0 op3) (Abl rfl (by kernel_rfl) (Aco.w0 op3) (Abl rfl (by kernel_rfl) (Aco.w0 op9) (Abl rfl (by kernel_rfl) (Aco.w0 op3) (Abl rfl (by kernel_rfl) (Aco.w0 op3) (Abl rfl (by kernel_rfl) (Aco.w0 op3) (Abl rfl (by kernel_rfl) (Aco.w0 op3) (Abl rfl (by kernel_rfl) (Aco.w0 op3) (Abl rfl (by kernel_rfl) (Aco.w0 AsQ) (Abl rfl (by kernel_rfl) AsN (Abl rfl (by kernel_rfl) (Aco.w0 op9) (Abl rfl (by kernel_rfl) (Aco.w0 AsP) AjF))))))))))))
theorem AsJ (v0 v1 v2 : Value) (w : World) (w0 : ∃ a : (Int×Int×ByteArray×Int×Int×Int×Int×Int×(List Int)×(List Go.TF.AaA)×ByteArray×(Int×ByteArray×Unit)×Unit),Rep (Ah5 w) (AV.agg ((AV.int .i64 a.1).cells++((AV.int .i64 a.2.1).cells++((AV.str a.2.2.1).cells++((AV.int .i64 a.2.2.2.1).cells++((AV.int .i64 a.2.2.2.2.1).cells++((AV.int .i64 a.2.2.2.2.2.1).cells++((AV.int .i64 a.2.2.2.2.2.2.1).cells++((AV.int .i64 a.2.2.2.2.2.2.2.1).cells++((AV.lst false false (List.map (AV.int .i64) a.2.2.2.2.2.2.2.2.1)).cells++((AV.lst false false (List.map Go.TF.AaA.av a.2.2.2.2.2.2.2.2.2.1)).cells++((AV.str a.2.2.2.2.2.2.2.2.2.2.1).cells++((AV.agg ((AV.int .i64 a.2.2.2.2.2.2.2.2.2.2.2.1.1).cells++((AV.str a.2.2.2.2.2.2.2.2.2.2.2.1.2.1).cells++[]))).cells++[]))))))))))))) v0∧Go.TF.Ai0 (a.2.2.2.2.2.2.2.2.2.1)≤1048576) (w1 : ∃ a : (Int×Int×ByteArray×Int×Int×Int×Int×Int×(List Int)×(List Go.TF.AaA)×ByteArray×(Int×ByteArray×Unit)×Unit),Rep (Ah5 w) (AV.agg ((AV.int .i64 a.1).cells++((AV.int .i64 a.2.1).cells++((AV.str a.2.2.1).cells++((AV.int .i64 a.2.2.2.1).cells++((AV.int .i64 a.2.2.2.2.1).cells++((AV.int .i64 a.2.2.2.2.2.1).cells++((AV.int .i64 a.2.2.2.2.2.2.1).cells++((AV.int .i64 a.2.2.2.2.2.2.2.1).cells++((AV.lst false false (List.map (AV.int .i64) a.2.2.2.2.2.2.2.2.1)).cells++((AV.lst false false (List.map Go.TF.AaA.av a.2.2.2.2.2.2.2.2.2.1)).cells++((AV.str a.2.2.2.2.2.2.2.2.2.2.1).cells++((AV.agg ((AV.int .i64 a.2.2.2.2.2.2.2.2.2.2.2.1.1).cells++((AV.str a.2.2.2.2.2.2.2.2.2.2.2.1.2.1).cells++[]))).cells++[]))))))))))))) v1∧Go.TF.Ai0 (a.2.2.2.2.2.2.2.2.2.1)≤1048576) (w2 : ∃ a : (List Int),Rep (Ah5 w) (AV.lst false false (List.map (AV.int .u8) a)) v2) :
    Calls Try.prog 5 #[v0,v1,v2] w fun e w'=>e = .returned (.bool true)∧Below w.heap.size w w':=by
  obtain ⟨⟨x0,x1,x2,x3,x4,x5,x6,x7,x8,x9,x10,⟨x11,x12,_⟩,_⟩,w0,u0⟩:=w0
  obtain ⟨⟨x13,x14,x15,x16,x17,x18,x19,x20,x21,x22,x23,⟨x24,x25,_⟩,_⟩,w1,u1⟩:=w1
  obtain ⟨x26,w2⟩:=w2
  have g0 : Fit _∧Fit _∧Fit _∧Fit _∧Fit _∧Fit _∧Fit _∧Fit _∧Fit _∧Fit _∧Fit _∧Fit _∧Fit _∧True:=w0.fit
  have g1 : Fit _∧Fit _∧Fit _∧Fit _∧Fit _∧Fit _∧Fit _∧Fit _∧Fit _∧Fit _∧Fit _∧Fit _∧Fit _∧True:=w1.fit
  obtain ⟨k,hk⟩:=Go.TF.AhN x0 x1 x2 x3 x4 x5 x6 x7 x8 x9 x10 x11 x12 x13 x14 x15 x16 x17 x18 x19 x20 x21 x22 x23 x24 x25 x26 w2.fit u0 u1
  exact (Go.TF.AfQ k _ _ _ _ _ _ _ _ _ _ _ _ _ _ _ _ _ _ _ _ _ _ _ _ _ _ _ _ hk).use w #[v0,v1,v2] (by simp only [AaB]; exact ⟨_,_,rfl,w0,⟨_,_,rfl,w1,⟨_,_,rfl,w2,rfl⟩⟩⟩)
set_option maxRecDepth 100000 in
theorem Api (os : Os) (started : os.Started) (H : Type) (enc : TypeId×Value→H) (F0 : Stop.Interp) :
    ReturnsInHanded {} Try.checked os 5 .any ((Rows.OpenSpec.upto Rows.statementRawSpec).pre6 enc Try.prog Try.f5 Rows.statementRawUptoRow.domain false) (((Rows.OpenSpec.upto Rows.statementRawSpec).at F0).post enc Try.prog Try.f5 false true false false):=by
  refine returnsInHanded_of_cond (C:=Try.checked) (s:=(Rows.OpenSpec.upto Rows.statementRawSpec)) (k:=Rows.uptoSmall) rfl own started (by kernel_rfl) Try.func5
    (OpenSpec.witness (enc:=enc) (C:=Try.checked) (s:=(Rows.OpenSpec.upto Rows.statementRawSpec)) (k:=Rows.uptoSmall) rfl false ⟨#[],#[.agg #[.int .i64 0,.int .i64 0,.string ByteArray.empty,.int .i64 0,.int .i64 0,.int .i64 0,.int .i64 0,.int .i64 0,.slice none 0 0,.slice none 0 0,.string ByteArray.empty,.int .i64 0,.string ByteArray.empty],.agg #[.int .i64 0,.int .i64 0,.string ByteArray.empty,.int .i64 0,.int .i64 0,.int .i64 0,.int .i64 0,.int .i64 0,.slice none 0 0,.slice none 0 0,.string ByteArray.empty,.int .i64 0,.string ByteArray.empty],.slice none 0 0],[]⟩ 8 (by kernel_rfl) (by kernel_rfl) (by kernel_rfl)
      (x:=([.agg [.lit (.int .i64 0),.lit (.int .i64 0),.lit (.string []),.lit (.int .i64 0),.lit (.int .i64 0),.lit (.int .i64 0),.lit (.int .i64 0),.lit (.int .i64 0),.nil,.nil,.lit (.string []),.agg [.lit (.int .i64 0),.lit (.string [])]],.agg [.lit (.int .i64 0),.lit (.int .i64 0),.lit (.string []),.lit (.int .i64 0),.lit (.int .i64 0),.lit (.int .i64 0),.lit (.int .i64 0),.lit (.int .i64 0),.nil,.nil,.lit (.string []),.agg [.lit (.int .i64 0),.lit (.string [])]],.nil],[],[])) (by kernel_rfl) (by kernel_rfl) (by kernel_rfl)) ?_
  intro W base args ds gs before hval0 hW hcnd hk _
  have hval : ∀ (j : Nat) t v,Try.f5.params[j]? = some t→args[j]? = some v→Value.okWide Try.prog W .any base t v:=hval0
  have hW':=hW
  obtain ⟨p,q,hA0,hV,rfl,hfz,hnd⟩:=hW
  have hA : DataW.TrodAll enc Try.prog W 0 (fun _=>true) true Try.f5.params.toList args.toList ds p:=hA0
  rw [Try.params5] at hA hval
  obtain ⟨v0,vs0,d0,ds0,p0,q0,hargs,rfl,rfl,h0,r0⟩:=trodAll_cons hA
  obtain ⟨v1,vs1,d1,ds1,p1,q1,rfl,rfl,rfl,h1,r1⟩:=trodAll_cons r0
  obtain ⟨v2,vs2,d2,ds2,p2,q2,rfl,rfl,rfl,h2,r2⟩:=trodAll_cons r1
  obtain ⟨rfl,rfl,rfl⟩:=trodAll_nil r2
  obtain rfl : args = #[v0,v1,v2]:=by cases args; simp_all
  obtain ⟨rfl,rfl⟩:=trodVars_none hV
  have hb : Rows.uptoBulk d0+(Rows.uptoBulk d1+(Rows.uptoBulk d2+(0)))≤1048576:=by simpa [Rows.uptoSmall,Rows.uptoBulkAll] using hk
  have lt0 : ∀ x ∈ p0,x.block<W.heap.size:=by obtain ⟨m,hm⟩:=h0; exact DataW.trod_lt m _ _ _ hm
  have x0:=Adi.aggW Art Try.underlying43 (fun _=>⟨_,rfl⟩) (hval 0 43 v0 rfl rfl) h0
  have w0 : ∃ a : (Int×Int×ByteArray×Int×Int×Int×Int×Int×(List Int)×(List Go.TF.AaA)×ByteArray×(Int×ByteArray×Unit)×Unit),Rep (Ah5 W) (AV.agg ((AV.int .i64 a.1).cells++((AV.int .i64 a.2.1).cells++((AV.str a.2.2.1).cells++((AV.int .i64 a.2.2.2.1).cells++((AV.int .i64 a.2.2.2.2.1).cells++((AV.int .i64 a.2.2.2.2.2.1).cells++((AV.int .i64 a.2.2.2.2.2.2.1).cells++((AV.int .i64 a.2.2.2.2.2.2.2.1).cells++((AV.lst false false (List.map (AV.int .i64) a.2.2.2.2.2.2.2.2.1)).cells++((AV.lst false false (List.map Go.TF.AaA.av a.2.2.2.2.2.2.2.2.2.1)).cells++((AV.str a.2.2.2.2.2.2.2.2.2.2.1).cells++((AV.agg ((AV.int .i64 a.2.2.2.2.2.2.2.2.2.2.2.1.1).cells++((AV.str a.2.2.2.2.2.2.2.2.2.2.2.1.2.1).cells++[]))).cells++[]))))))))))))) v0∧Go.TF.Ai0 (a.2.2.2.2.2.2.2.2.2.1)≤1048576:=by
    obtain ⟨a,e1,e2⟩:=x0
    refine ⟨a,e1,?_⟩
    simp only [Nat.zero_add,Nat.add_zero] at e2
    exact Nat.le_trans e2 (by show Rows.uptoBulk d0≤_; omega)
  have lt1 : ∀ x ∈ p1,x.block<W.heap.size:=by obtain ⟨m,hm⟩:=h1; exact DataW.trod_lt m _ _ _ hm
  have x1:=Adi.aggW Art Try.underlying43 (fun _=>⟨_,rfl⟩) (hval 1 43 v1 rfl rfl) h1
  have w1 : ∃ a : (Int×Int×ByteArray×Int×Int×Int×Int×Int×(List Int)×(List Go.TF.AaA)×ByteArray×(Int×ByteArray×Unit)×Unit),Rep (Ah5 W) (AV.agg ((AV.int .i64 a.1).cells++((AV.int .i64 a.2.1).cells++((AV.str a.2.2.1).cells++((AV.int .i64 a.2.2.2.1).cells++((AV.int .i64 a.2.2.2.2.1).cells++((AV.int .i64 a.2.2.2.2.2.1).cells++((AV.int .i64 a.2.2.2.2.2.2.1).cells++((AV.int .i64 a.2.2.2.2.2.2.2.1).cells++((AV.lst false false (List.map (AV.int .i64) a.2.2.2.2.2.2.2.2.1)).cells++((AV.lst false false (List.map Go.TF.AaA.av a.2.2.2.2.2.2.2.2.2.1)).cells++((AV.str a.2.2.2.2.2.2.2.2.2.2.1).cells++((AV.agg ((AV.int .i64 a.2.2.2.2.2.2.2.2.2.2.2.1.1).cells++((AV.str a.2.2.2.2.2.2.2.2.2.2.2.1.2.1).cells++[]))).cells++[]))))))))))))) v1∧Go.TF.Ai0 (a.2.2.2.2.2.2.2.2.2.1)≤1048576:=by
    obtain ⟨a,e1,e2⟩:=x1
    refine ⟨a,e1,?_⟩
    simp only [Nat.zero_add,Nat.add_zero] at e2
    exact Nat.le_trans e2 (by show Rows.uptoBulk d1≤_; omega)
  have lt2 : ∀ x ∈ p2,x.block<W.heap.size:=by obtain ⟨m,hm⟩:=h2; exact DataW.trod_lt m _ _ _ hm
  have w2:=Aco.one AsO (fun _=>rfl) (Ajy (e:=5) (by kernel_rfl) (hval 2 44 v2 rfl rfl)) h2
  refine (AsJ v0 v1 v2 W w0 w1 w2).mono fun e W' ⟨he,bel⟩=>?_
  subst he
  exact ⟨_,rfl,_,_,_,[],_,[],hW',trodAll_mk1 (shut_bool (by kernel_rfl) _),(trodAll_cons_mk (Below.trod Ajx (by kernel_rfl) (of_decide_eq_true (by kernel_rfl)) h0 bel lt0) (trodAll_cons_mk (Below.trod Ajx (by kernel_rfl) (of_decide_eq_true (by kernel_rfl)) h1 bel lt1) (trodAll_cons_mk (Below.trod Ajx (by kernel_rfl) (of_decide_eq_true (by kernel_rfl)) h2 bel lt2) trodAll_mk0))),rfl,bel.frame _,fun h=>by cases h⟩
theorem AiA : ∀ (w r : List Char),(∀ c ∈ w,c≠(Char.ofNat 32))→wordsSigns (w++(Char.ofNat 32)::r)=w::wordsSigns r
  | [],r,_=>rfl
  | c::w,r,h=>by
    have hc : c≠(Char.ofNat 32):=h c (by simp)
    have ih:=AiA w r (fun x hx=>h x (by simp [hx]))
    show wordsSigns (c::(w++(Char.ofNat 32)::r))=_
    rw [wordsSigns,ih]
    exact hc
theorem ini : Try.pinned.checked.prog.initOrder.toList=(List.map Char.ofNat [104,97,114,110,101,115,115])++(Char.ofNat 32)::((List.map Char.ofNat [57,99,99,98,56,55,54,99,51,101,102,101,99,51,98,98,101,57,53,57,99,57,98,53,53,99,55,101,48,102,50,98,50,53,50,51,100,49,97,97,57,54,53,53,99,49,48,97,53,53,102,50,54,97,53,102,51,49,54,53,102,57,53,48])++(Char.ofNat 32)::((List.map Char.ofNat [99,117,116])++(Char.ofNat 32)::(List.map Char.ofNat [97,116,32,116,114,117,115,116,102,108,111,119,47,116,114,117,115,116,102,108,111,119,108,97,119,50,52,46,82,111,115,116,101,114,82,117,108,101,115,32,116,114,117,115,116,102,108,111,119,47,116,114,117,115,116,102,108,111,119,108,97,119,50,53,46,66,101,97,99,111,110,82,117,108,101,115,32,116,114,117,115,116,102,108,111,119,47,116,114,117,115,116,102,108,111,119,108,97,119,48,51,46,83,116,97,116,101,109,101,110,116,82,97,119,32,116,114,117,115,116,102,108,111,119,47,116,114,117,115,116,102,108,111,119,108,97,119,48,51,46,83,116,97,116,101,109,101,110,116,77,97,100,101]))) :=
  (congrArg String.toList (show Try.pinned.checked.prog.initOrder=String.ofList _ by kernel_rfl)).trans String.toList_ofList
theorem Aga : ∃ R,behindMainWord (wordsSigns Try.pinned.checked.prog.initOrder.toList)=(List.map Char.ofNat [99,117,116])::R:=by
  rw [ini,AiA _ _ (by decide +kernel),AiA _ _ (by decide +kernel),AiA _ _ (by decide +kernel)]
  generalize wordsSigns (List.map Char.ofNat [97,116,32,116,114,117,115,116,102,108,111,119,47,116,114,117,115,116,102,108,111,119,108,97,119,50,52,46,82,111,115,116,101,114,82,117,108,101,115,32,116,114,117,115,116,102,108,111,119,47,116,114,117,115,116,102,108,111,119,108,97,119,50,53,46,66,101,97,99,111,110,82,117,108,101,115,32,116,114,117,115,116,102,108,111,119,47,116,114,117,115,116,102,108,111,119,108,97,119,48,51,46,83,116,97,116,101,109,101,110,116,82,97,119,32,116,114,117,115,116,102,108,111,119,47,116,114,117,115,116,102,108,111,119,108,97,119,48,51,46,83,116,97,116,101,109,101,110,116,77,97,100,101])=R
  exact ⟨R,by kernel_rfl⟩
theorem An7 (P : Program) (R : List (List Char)) (h : behindMainWord (wordsSigns P.initOrder.toList)=(List.map Char.ofNat [99,117,116])::R) : P.make=some .cut:=by
  have e1 : (((List.map Char.ofNat [99,117,116]) : List Char) == "gc".toList||((List.map Char.ofNat [99,117,116]) : List Char) == "spec".toList)=false:=by decide +kernel
  have e2 : (((List.map Char.ofNat [99,117,116]) : List Char) == "cut".toList)=true:=by decide +kernel
  unfold Program.make
  rw [h]
  dsimp only
  rw [e1,e2]
  simp
theorem Am6 (P : Program) (R : List (List Char)) (h : behindMainWord (wordsSigns P.initOrder.toList)=(List.map Char.ofNat [99,117,116])::R) : P.liftsFinal=false:=by
  unfold Program.liftsFinal Program.headLifts
  rw [h]
  kernel_rfl
theorem AnC (P : Program) (R : List (List Char)) (h : behindMainWord (wordsSigns P.initOrder.toList)=(List.map Char.ofNat [99,117,116])::R) (e1 : P.laysLater=false) (e2 : P.bearsReflect=false) (e3 : P.doorFits []=true) : P.mayEnter=true:=by
  have e0 : stripLifts liftWords ((List.map Char.ofNat [99,117,116])::R)=([],(List.map Char.ofNat [99,117,116])::R):=by kernel_rfl
  unfold Program.mayEnter
  rw [h]
  dsimp only
  rw [e0,e1,e2]
  dsimp only
  rw [e3]
  simp
theorem mayEnter : Try.pinned.checked.prog.mayEnter=true:=by
  obtain ⟨R,h⟩:=Aga
  exact AnC _ R h (by kernel_rfl) (by kernel_rfl) (by kernel_rfl)
theorem liftsFinal : Try.pinned.checked.prog.liftsFinal=false:=by
  obtain ⟨R,h⟩:=Aga
  exact Am6 _ R h
theorem make : Try.pinned.checked.prog.make=some .cut:=by
  obtain ⟨R,h⟩:=Aga
  exact An7 _ R h


theorem Apm : joinedFacts Try.pinned.checked.prog 5 Try.f5 (Rows.OpenSpec.upto Rows.statementRawSpec).bare Rows.statementRawUptoRow=true:=by unfold joinedFacts; rw [mayEnter,liftsFinal,make]; kernel_rfl
theorem over : Rows.statementRawUptoRow.holds Try.pinned (Rows.OpenSpec.upto Rows.statementRawSpec) :=
  OpenClaim.holds_of_cond 5 Try.f5 rfl rfl rfl rfl rfl rfl rfl ⟨rfl,rfl,rfl,rfl,rfl⟩ rfl rfl rfl rfl rfl (by kernel_rfl) Try.func5 Apm
    (of_decide_eq_true (by kernel_rfl)) (by unfold Func.isWrapper; first | (rw [if_pos (by decide +kernel)]; kernel_rfl) | (rw [if_neg (by decide +kernel)]; exact ⟨rfl,rfl⟩))
    (fun os started H enc _ F0=>Api os started H enc F0)

theorem proved : Rows.StatementRawUptoSaid:=over
#print axioms proved
end Go.Proofs.Ytomgdcnbceiggaa.statementRaw
