import Derived.Test.YtomgdcnbceiggaaRazLay17
set_option linter.unusedVariables false
set_option linter.unusedSimpArgs false
namespace Go.Abs
open Go.RowKit (Below)
section
variable {P : Program} {n : Nat} {c0 : Cx} {w0 : World} {Q : Abo} {s : Nat→AV} {H : AaI} {N : Nat}
theorem AW.seqR {id : Nat} {ops : List Oper} {draw : Bool} {y : Code} (hm : P.follows .mixedOrders=true) (mu : List Nat) (gs : List (Option (Nat×Bool))) (hok : Ahw n ops gs=true)
 (h : ∀ (G : Log→Prop) (K : (Nat→AV)→AaI→Nat→Prop),(∀ lg,(!draw||AdR ops lg)=true→G lg)→(∀ s' H' N',AW P n c0 w0 y Q s' H' N'→K s' H' N')→AdG P mu ops gs s H N [] (fun s' H' N' lg=>G lg∧K s' H' N')) :
 AW P n c0 w0 (.seq (.region id ops.toArray draw) y) Q s H N :=
 AW.seq fun K hK=>AW.region hm mu gs hok fun G K1 hG hK1=>h G K1 hG fun s' H' N' hA=>hK1 s' H' N' (hK s' H' N' hA)
theorem AW.own {c : Code} (t : Nat) (es : Nat) (fl : Bool) (hs : s t = .lst true fl []) (ht : decide (t<n)=true) (h : AW P n c0 w0 c Q (upd s t (.slc N 0 es 0 false)) (upd H N (some (.grow []))) (N+1)) : AW P n c0 w0 c Q s H N:=by
 intro a w ⟨cx,hr,hd,g,hu⟩
 have hv:=hr.slot t (by simpa using ht)
 rw [hs] at hv
 have hv' : a.tmps.getD t undef = .slice none 0 0:=by
  simp only [Rep] at hv
  rcases hv with ⟨_,h⟩ | ⟨h,_⟩
  ·exact h
  ·cases h
 obtain ⟨c',k1,k2,k3,k4⟩:=hr.hr.adopt (.refl cx w) (hu N (Nat.le_refl _)) (hu N (Nat.le_refl _)) (es:=es) (len:=0) (o := .grow []) (v := .slice none 0 0) (.inl ⟨rfl,rfl,_,rfl⟩)
 refine h a w ⟨c',⟨k1,hr.size,fun t' ht'=>?_⟩,hd,g.trans k2,fun i hi=>by rw [k4 i (by omega)]; exact hu i (by omega)⟩
 by_cases e : t'=t
 ·subst e; rw [Aaq,hv']; exact k3
 ·rw [AbX _ _ e]; exact (hr.slot t' ht').mono k2.le _ _
theorem AW.freeze {c : Code} (t : Nat) {id off es len : Nat} {full : Bool} (hs : s t = .slc id off es len full) (ht : decide (t<n)=true) {o : AaQ} {cs : List AV} (ho : H id=some o) (hc : o.cs? = some cs) (xs : List AV) (hel : okEls es xs)
 (hlen : xs.length=len) (he : AaO xs=(cs.drop off).take (len*es)) (nl : Bool) (hnl : nl=false) (h : AW P n c0 w0 c Q (upd s t (.lst nl full xs)) (upd H id none) N) : AW P n c0 w0 c Q s H N:=by
 intro a w ⟨cx,hr,hd,g,hu⟩
 have hv:=hr.slot t (by simpa using ht)
 rw [hs] at hv
 rcases Abq hr.hr ho with ⟨hemp,rfl⟩ | ⟨b,base,sz,hlive,hor⟩
 ·simp only [Rep] at hv
  obtain ⟨rfl,a0,hv'⟩:=hv.2.2.1 hemp
  subst hnl
  have : xs = []:=List.length_eq_zero_iff.1 hlen
  subst this
  obtain ⟨k1,k2⟩:=hr.hr.kill (id:=id) (by rw [hemp]; simp)
  refine h a w ⟨_,⟨k1,hr.size,fun t' ht'=>?_⟩,hd,g.trans k2,fun i hi=>?_⟩
  ·by_cases e : t'=t
   ·subst e; rw [Aaq,hv']; exact AfT _ _ _
   ·rw [AbX _ _ e]; exact (hr.slot t' ht').mono k2.le _ _
  ·have:=hu i hi
   have hne : i≠id:=by intro e; subst e; rw [hemp] at this; cases this
   simp only [upd,hne,if_false]; exact this
 ·have hng : o ≠ .grow []:=by intro e; subst e; obtain ⟨hne,_⟩:=hor; exact hne rfl
  have hn' : nl=false:=hnl
  obtain ⟨cap,p,hv',hp,h1,h2,h3,h4⟩:=Aas hv hlive
  obtain ⟨cur,Ty,fr,vs,q1,q2,q3,q4,q5,q6⟩:=hor.cs hc
  obtain ⟨k1,k2⟩:=hr.hr.freeze hlive
  refine h a w ⟨_,⟨k1,hr.size,fun t' ht'=>?_⟩,hd,g.trans k2,fun i hi=>?_⟩
  ·by_cases e : t'=t
   ·subst e
    rw [Aaq,hv']
    have hr2 : AaA ⟨fun k=>cx.Z k∨k=b,upd cx.ι id .dead,cx.h⟩ (AaO xs) ((vs.drop off).take (len*es)):=by rw [he]; exact ((q5.drop off).take _).mono k2.le
    obtain ⟨us,u1,u2,u3⟩:=Ae0 hel.1 hr2 (AaA.oneCell hr2 (List.all_eq_true.2 hel.2))
    have hul : us.length=len:=by rw [u1.length,hlen]
    subst hul
    simp only [Rep]
    refine .inr ⟨hn',_,b,p,cap,es,us,rfl,h1,h2,h4,fun _=>⟨rfl,.inr rfl⟩,?_,u1⟩
    by_cases hcap : 0<cap
    ·rw [Aa1 u3,u2,hp hcap]
     exact (q6.drop off).take _
    ·have : us = []:=List.length_eq_zero_iff.1 (by omega)
     subst this
     intro i hi; simp at hi
   ·rw [AbX _ _ e]; exact (hr.slot t' ht').mono k2.le _ _
  ·have:=hu i hi
   have hne : i≠id:=by intro e; subst e; rw [hlive] at this; cases this
   simp only [upd,hne,if_false]; exact this
end
@[simp] theorem Akb (s : Nat→AV) (d : Nat) (x : AV) : Ady s (some d) x=upd s d x:=rfl
@[simp] theorem Akc (s : Nat→AV) (x : AV) : Ady s none x=s:=rfl
theorem AkR {α : Type} (f : Nat→α) (i : Nat) (a : α) (j : Nat) : upd f i a j=if j=i then a else f j:=rfl
@[simp] theorem Al7 (t : Nat) : mkS [] t = .undef:=rfl
@[simp] theorem AlV (i : Nat) (x : AV) (l : List (Nat×AV)) (t : Nat) : mkS ((i,x)::l) t=if i=t then x else mkS l t:=by
 unfold mkS
 by_cases h : i=t <;> simp [h]
@[simp] theorem Al8 (t : Nat) : mkH [] t=none:=rfl
@[simp] theorem AlW (i : Nat) (x : AaQ) (l : List (Nat×AaQ)) (t : Nat) : mkH ((i,x)::l) t=if i=t then some x else mkH l t:=by
 unfold mkH
 by_cases h : i=t <;> simp [h]
@[simp] theorem Amj (s : Nat→AV) (t : Nat) : ev s (.tmp t)=s t:=rfl
@[simp] theorem AmE (s : Nat→AV) (b : Bool) : ev s (.const (.bool b)) = .bool b:=rfl
@[simp] theorem Aml (s : Nat→AV) (k : IntKind) (m : Int) : ev s (.const (.int k m)) = .int k m:=rfl
@[simp] theorem Amk (s : Nat→AV) (b : ByteArray) : ev s (.const (.string b)) = .str b:=rfl
@[simp] theorem AmC (s : Nat→AV) : ev s (.const (.pointer none)) = .nilptr:=rfl
@[simp] theorem AmB (s : Nat→AV) (a b : Nat) : ev s (.const (.slice none a b)) = .lst true true []:=rfl
@[simp] theorem AmD (s : Nat→AV) (f : FuncId) : ev s (.func f) = .fn f []:=rfl
attribute [simp] ofS
attribute [simp] AV.flat AdS Ad9 noIds idsIn Aat AfY
@[simp] theorem Akf  : (AV.undef).one=false:=rfl
@[simp] theorem Ajj  : (AV.undef).cells = [AV.undef]:=rfl
@[simp] theorem AlO  : (AV.skip).one=false:=rfl
@[simp] theorem AkH  : (AV.skip).cells = [AV.skip]:=rfl
@[simp] theorem AlQ (b : Bool) : (AV.bool b).one=true:=rfl
@[simp] theorem AkJ (b : Bool) : (AV.bool b).cells = [AV.bool b]:=rfl
@[simp] theorem Alu (k : IntKind) (n : Int) : (AV.int k n).one=true:=rfl
@[simp] theorem Akz (k : IntKind) (n : Int) : (AV.int k n).cells = [AV.int k n]:=rfl
@[simp] theorem Alp (s : ByteArray) : (AV.str s).one=true:=rfl
@[simp] theorem Aku (s : ByteArray) : (AV.str s).cells = [AV.str s]:=rfl
@[simp] theorem Alt (a b : Bool) (l : List AV) : (AV.lst a b l).one=true:=rfl
@[simp] theorem Aky (a b : Bool) (l : List AV) : (AV.lst a b l).cells = [AV.lst a b l]:=rfl
@[simp] theorem AlP (l : List AV) : (AV.cptr l).one=true:=rfl
@[simp] theorem AkI (l : List AV) : (AV.cptr l).cells = [AV.cptr l]:=rfl
@[simp] theorem Alr (i j : Nat) : (AV.ptr i j).one=true:=rfl
@[simp] theorem Akw (i j : Nat) : (AV.ptr i j).cells = [AV.ptr i j]:=rfl
@[simp] theorem Aj8  : (AV.nilptr).one=true:=rfl
@[simp] theorem AjN  : (AV.nilptr).cells = [AV.nilptr]:=rfl
@[simp] theorem Alq (i j e l : Nat) (f : Bool) : (AV.slc i j e l f).one=true:=rfl
@[simp] theorem Akv (i j e l : Nat) (f : Bool) : (AV.slc i j e l f).cells = [AV.slc i j e l f]:=rfl
@[simp] theorem Alw (l : List AV) : (AV.agg l).one=false:=rfl
@[simp] theorem Ak1 (l : List AV) : (AV.agg l).cells=l:=rfl
@[simp] theorem Alo (l : List AV) : (AV.tup l).one=false:=rfl
@[simp] theorem Akt (l : List AV) : (AV.tup l).cells = [AV.tup l]:=rfl
@[simp] theorem Ama (f : Nat) (l : List AV) : (AV.fn f l).one=true:=rfl
@[simp] theorem Alf (f : Nat) (l : List AV) : (AV.fn f l).cells = [AV.fn f l]:=rfl
@[simp] theorem Akg  : (AV.nilfn).one=true:=rfl
@[simp] theorem Ajk  : (AV.nilfn).cells = [AV.nilfn]:=rfl
@[simp] theorem Als (i : Nat) : (AV.map i).one=true:=rfl
@[simp] theorem Akx (i : Nat) : (AV.map i).cells = [AV.map i]:=rfl
@[simp] theorem Aj9  : (AV.nilmap).one=true:=rfl
@[simp] theorem AjO  : (AV.nilmap).cells = [AV.nilmap]:=rfl
@[simp] theorem Alv (t : Nat) (x : AV) : (AV.ifc t x).one=true:=rfl
@[simp] theorem Ak0 (t : Nat) (x : AV) : (AV.ifc t x).cells = [AV.ifc t x]:=rfl
@[simp] theorem AkA  : (AV.nilifc).one=true:=rfl
@[simp] theorem AjP  : (AV.nilifc).cells = [AV.nilifc]:=rfl
@[simp] theorem AmZ (x : AV) : (AV.nn x).one=false:=rfl
@[simp] theorem Ale (x : AV) : (AV.nn x).cells = [AV.nn x]:=rfl
@[simp] theorem Ald (l : List AV) : (AaQ.cells l).cs? = some l:=rfl
@[simp] theorem AmG (l : List AV) : (AaQ.grow l).cs? = some l:=rfl
@[simp] theorem Aj2 (l m : List AV) : (AaQ.cells l).with m = .cells m:=rfl
@[simp] theorem AkP (l m : List AV) : (AaQ.grow l).with m = .grow m:=rfl
@[simp] theorem Al2 (k : IntKind) (m : Int) : (AV.int k m).okc=true:=rfl
@[simp] theorem Alx (b : ByteArray) : (AV.str b).okc=true:=rfl
@[simp] theorem AlS (b : Bool) : (AV.bool b).okc=true:=rfl
@[simp] theorem Al3 (l : List AV) : (AV.agg l).okc=true:=rfl
@[simp] theorem Al1 (a b : Bool) (l : List AV) : (AV.lst a b l).okc=true:=rfl
@[simp] theorem AlR (l : List AV) : (AV.cptr l).okc=true:=rfl
@[simp] theorem Alz (i j : Nat) : (AV.ptr i j).okc=true:=rfl
@[simp] theorem Aly (i j e l : Nat) (f : Bool) : (AV.slc i j e l f).okc=true:=rfl
@[simp] theorem Amb (i : Nat) (l : List AV) : (AV.fn i l).okc=true:=rfl
@[simp] theorem AkB : AV.nilptr.okc=true:=rfl
@[simp] theorem Al0 (i : Nat) : (AV.map i).okc=true:=rfl
@[simp] theorem AkC : AV.nilmap.okc=true:=rfl
@[simp] theorem Aks : AaO [] = []:=rfl
@[simp] theorem Ae8 (x : AV) (l : List AV) : AaO (x::l)=x.cells++AaO l:=rfl
@[simp] theorem Ahj {α : Type} (k : IntKind) (f : α→Int) (l : List α) : AaO (l.map fun x => .int k (f x))=l.map fun x => .int k (f x):=by
 induction l with
 | nil=>rfl
 | cons x l ih=>simp [ih]
@[simp] theorem Ahc {α : Type} (k : IntKind) (f : α→Int) (S : Nat→Prop) (l : List α) : Aat S (l.map fun x => .int k (f x))↔True:=by
 induction l with
 | nil=>simp
 | cons x l ih=>simp [ih]
@[simp] theorem Ajb (k : IntKind) (S : Nat→Prop) (l : List Int) : Aat S (l.map (.int k))↔True:=Ahc k id S l
@[simp] theorem Ajh (k : IntKind) (l : List Int) : AaO (l.map (.int k))=l.map (.int k):=Ahj k id l
@[simp] theorem Aja (k : IntKind) (l : List Int) : okEls 1 (l.map (.int k))↔True:=iff_true_intro (AhZ (f:=id))
@[simp] theorem Alm (x y : AV) : Afq true x y=x:=rfl
@[simp] theorem Aln (x y : AV) : Afq false x y=y:=rfl
@[simp] theorem Aj7 (b x y : Bool) : Afq b (.bool x) (.bool y) = .bool (if b then x else y):=by cases b <;> rfl
attribute [simp ↓] AkR
attribute [simp] AV.fits Adr AgL AfA AbC Ai2 Ami Ack AjD AlA Abt Aek aun AeG Adh AcK AdN
theorem Alj (k : IntKind) {n : Int} (h1 : k.min≤n) (h2 : n≤k.max) : k.wrap n=n:=by
 cases k <;> simp [IntKind.wrap,IntKind.min,IntKind.max,IntKind.bits,IntKind.signed] at * <;> omega
theorem AkO {n : Int} (h1 : -9223372036854775808≤n) (h2 : n≤9223372036854775807) : IntKind.i64.wrap n=n:=Alj .i64 (by simpa [IntKind.min,IntKind.bits,IntKind.signed] using h1) (by simpa [IntKind.max,IntKind.bits,IntKind.signed] using h2)
end Go.Abs
