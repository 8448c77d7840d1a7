import Derived.Test.YtomgdcnbceiggaaSrzLay17
set_option linter.unusedVariables false
set_option linter.unusedSimpArgs false
namespace Go.Abs
open Go.RowKit (Below)
section
variable {P : Program} {n : Nat} {c0 : Cx} {w0 : World} {Q : Acn} {s : Nat→AV} {H : Aae} {N : Nat}
theorem AW.seqR {id : Nat} {ops : List Oper} {draw : Bool} {y : Code} (hm : P.follows .mixedOrders=true) (mu : List Nat) (gs : List (Option (Nat×Bool))) (hok : Afg n ops gs=true)
 (h : ∀ (G : Log→Prop) (K : (Nat→AV)→Aae→Nat→Prop),(∀ lg,(!draw||AdO ops lg)=true→G lg)→(∀ s' H' N',AW P n c0 w0 y Q s' H' N'→K s' H' N')→AeN P mu ops gs s H N [] (fun s' H' N' lg=>G lg∧K s' H' N')) :
 AW P n c0 w0 (.seq (.region id ops.toArray draw) y) Q s H N :=
 AW.seq fun K hK=>AW.region hm mu gs hok fun G K1 hG hK1=>h G K1 hG fun s' H' N' hA=>hK1 s' H' N' (hK s' H' N' hA)
theorem AW.own {c : Code} (t : Nat) (es : Nat) (fl : Bool) (hs : s t = .lst true fl []) (ht : decide (t<n)=true) (h : AW P n c0 w0 c Q (upd s t (.slc N 0 es 0 false)) (upd H N (some (.grow []))) (N+1)) : AW P n c0 w0 c Q s H N:=by
 intro a w ⟨cx,hr,hd,g,hu⟩
 have hv:=hr.slot t (by simpa using ht)
 rw [hs] at hv
 have hv' : a.tmps.getD t undef = .slice none 0 0:=by
  simp only [Rep] at hv
  rcases hv with ⟨_,h⟩ | ⟨h,_⟩
  ·exact h
  ·cases h
 obtain ⟨c',k1,k2,k3,k4⟩:=hr.hr.adopt (.refl cx w) (hu N (Nat.le_refl _)) (hu N (Nat.le_refl _)) (es:=es) (len:=0) (o := .grow []) (v := .slice none 0 0) (.inl ⟨rfl,rfl,_,rfl⟩)
 refine h a w ⟨c',⟨k1,hr.size,fun t' ht'=>?_⟩,hd,g.trans k2,fun i hi=>by rw [k4 i (by omega)]; exact hu i (by omega)⟩
 by_cases e : t'=t
 ·subst e; rw [AbU,hv']; exact k3
 ·rw [Acc _ _ e]; exact (hr.slot t' ht').mono k2.le _ _
theorem AW.freeze {c : Code} (t : Nat) {id off es len : Nat} {full : Bool} (hs : s t = .slc id off es len full) (ht : decide (t<n)=true) {o : Aaq} {cs : List AV} (ho : H id=some o) (hc : o.cs? = some cs) (xs : List AV) (hel : okEls es xs)
 (hlen : xs.length=len) (he : AaW xs=(cs.drop off).take (len*es)) (nl : Bool) (hnl : nl=false) (h : AW P n c0 w0 c Q (upd s t (.lst nl full xs)) (upd H id none) N) : AW P n c0 w0 c Q s H N:=by
 intro a w ⟨cx,hr,hd,g,hu⟩
 have hv:=hr.slot t (by simpa using ht)
 rw [hs] at hv
 rcases AdP hr.hr ho with ⟨hemp,rfl⟩ | ⟨b,base,sz,hlive,hor⟩
 ·simp only [Rep] at hv
  obtain ⟨rfl,a0,hv'⟩:=hv.2.2.1 hemp
  subst hnl
  have : xs = []:=List.length_eq_zero_iff.1 hlen
  subst this
  obtain ⟨k1,k2⟩:=hr.hr.kill (id:=id) (by rw [hemp]; simp)
  refine h a w ⟨_,⟨k1,hr.size,fun t' ht'=>?_⟩,hd,g.trans k2,fun i hi=>?_⟩
  ·by_cases e : t'=t
   ·subst e; rw [AbU,hv']; exact AiO _ _ _
   ·rw [Acc _ _ e]; exact (hr.slot t' ht').mono k2.le _ _
  ·have:=hu i hi
   have hne : i≠id:=by intro e; subst e; rw [hemp] at this; cases this
   simp only [upd,hne,if_false]; exact this
 ·have hng : o ≠ .grow []:=by intro e; subst e; obtain ⟨hne,_⟩:=hor; exact hne rfl
  have hn' : nl=false:=hnl
  obtain ⟨cap,p,hv',hp,h1,h2,h3,h4⟩:=Abi hv hlive
  obtain ⟨cur,Ty,fr,vs,q1,q2,q3,q4,q5,q6⟩:=hor.cs hc
  obtain ⟨k1,k2⟩:=hr.hr.freeze hlive
  refine h a w ⟨_,⟨k1,hr.size,fun t' ht'=>?_⟩,hd,g.trans k2,fun i hi=>?_⟩
  ·by_cases e : t'=t
   ·subst e
    rw [AbU,hv']
    have hr2 : AaB ⟨fun k=>cx.Z k∨k=b,upd cx.ι id .dead,cx.h⟩ (AaW xs) ((vs.drop off).take (len*es)):=by rw [he]; exact ((q5.drop off).take _).mono k2.le
    obtain ⟨us,u1,u2,u3⟩:=Ahj hel.1 hr2 (AaB.oneCell hr2 (List.all_eq_true.2 hel.2))
    have hul : us.length=len:=by rw [u1.length,hlen]
    subst hul
    simp only [Rep]
    refine .inr ⟨hn',_,b,p,cap,es,us,rfl,h1,h2,h4,fun _=>⟨rfl,.inr rfl⟩,?_,u1⟩
    by_cases hcap : 0<cap
    ·rw [Ab4 u3,u2,hp hcap]
     exact (q6.drop off).take _
    ·have : us = []:=List.length_eq_zero_iff.1 (by omega)
     subst this
     intro i hi; simp at hi
   ·rw [Acc _ _ e]; exact (hr.slot t' ht').mono k2.le _ _
  ·have:=hu i hi
   have hne : i≠id:=by intro e; subst e; rw [hlive] at this; cases this
   simp only [upd,hne,if_false]; exact this
end
@[simp] theorem ApW (s : Nat→AV) (d : Nat) (x : AV) : Aev s (some d) x=upd s d x:=rfl
@[simp] theorem ApX (s : Nat→AV) (x : AV) : Aev s none x=s:=rfl
theorem Ao7 {α : Type} (f : Nat→α) (i : Nat) (a : α) (j : Nat) : upd f i a j=if j=i then a else f j:=rfl
@[simp] theorem ArK (t : Nat) : mkS [] t = .undef:=rfl
@[simp] theorem AqY (i : Nat) (x : AV) (l : List (Nat×AV)) (t : Nat) : mkS ((i,x)::l) t=if i=t then x else mkS l t:=by
 unfold mkS
 by_cases h : i=t <;> simp [h]
@[simp] theorem ArL (t : Nat) : mkH [] t=none:=rfl
@[simp] theorem AqZ (i : Nat) (x : Aaq) (l : List (Nat×Aaq)) (t : Nat) : mkH ((i,x)::l) t=if i=t then some x else mkH l t:=by
 unfold mkH
 by_cases h : i=t <;> simp [h]
@[simp] theorem Ar7 (s : Nat→AV) (t : Nat) : ev s (.tmp t)=s t:=rfl
@[simp] theorem ArQ (s : Nat→AV) (b : Bool) : ev s (.const (.bool b)) = .bool b:=rfl
@[simp] theorem Ar9 (s : Nat→AV) (k : IntKind) (m : Int) : ev s (.const (.int k m)) = .int k m:=rfl
@[simp] theorem Ar8 (s : Nat→AV) (b : ByteArray) : ev s (.const (.string b)) = .str b:=rfl
@[simp] theorem ArO (s : Nat→AV) : ev s (.const (.pointer none)) = .nilptr:=rfl
@[simp] theorem ArN (s : Nat→AV) (a b : Nat) : ev s (.const (.slice none a b)) = .lst true true []:=rfl
@[simp] theorem ArP (s : Nat→AV) (f : FuncId) : ev s (.func f) = .fn f []:=rfl
attribute [simp] ofS
attribute [simp] AV.flat Afh Acd noIds idsIn Abu AiX
@[simp] theorem Apc  : (AV.undef).one=false:=rfl
@[simp] theorem AoG  : (AV.undef).cells = [AV.undef]:=rfl
@[simp] theorem AqS  : (AV.skip).one=false:=rfl
@[simp] theorem Aov  : (AV.skip).cells = [AV.skip]:=rfl
@[simp] theorem AqU (b : Bool) : (AV.bool b).one=true:=rfl
@[simp] theorem Aox (b : Bool) : (AV.bool b).cells = [AV.bool b]:=rfl
@[simp] theorem Aq8 (k : IntKind) (n : Int) : (AV.int k n).one=true:=rfl
@[simp] theorem Ap0 (k : IntKind) (n : Int) : (AV.int k n).cells = [AV.int k n]:=rfl
@[simp] theorem Aq3 (s : ByteArray) : (AV.str s).one=true:=rfl
@[simp] theorem Apv (s : ByteArray) : (AV.str s).cells = [AV.str s]:=rfl
@[simp] theorem Aq7 (a b : Bool) (l : List AV) : (AV.lst a b l).one=true:=rfl
@[simp] theorem Apz (a b : Bool) (l : List AV) : (AV.lst a b l).cells = [AV.lst a b l]:=rfl
@[simp] theorem AqT (l : List AV) : (AV.cptr l).one=true:=rfl
@[simp] theorem Aow (l : List AV) : (AV.cptr l).cells = [AV.cptr l]:=rfl
@[simp] theorem Aq5 (i j : Nat) : (AV.ptr i j).one=true:=rfl
@[simp] theorem Apx (i j : Nat) : (AV.ptr i j).cells = [AV.ptr i j]:=rfl
@[simp] theorem Aon  : (AV.nilptr).one=true:=rfl
@[simp] theorem Ank  : (AV.nilptr).cells = [AV.nilptr]:=rfl
@[simp] theorem Aq4 (i j e l : Nat) (f : Bool) : (AV.slc i j e l f).one=true:=rfl
@[simp] theorem Apw (i j e l : Nat) (f : Bool) : (AV.slc i j e l f).cells = [AV.slc i j e l f]:=rfl
@[simp] theorem ArA (l : List AV) : (AV.agg l).one=false:=rfl
@[simp] theorem Ap2 (l : List AV) : (AV.agg l).cells=l:=rfl
@[simp] theorem Aq2 (l : List AV) : (AV.tup l).one=false:=rfl
@[simp] theorem Apu (l : List AV) : (AV.tup l).cells = [AV.tup l]:=rfl
@[simp] theorem Arv (f : Nat) (l : List AV) : (AV.fn f l).one=true:=rfl
@[simp] theorem Aqe (f : Nat) (l : List AV) : (AV.fn f l).cells = [AV.fn f l]:=rfl
@[simp] theorem Apd  : (AV.nilfn).one=true:=rfl
@[simp] theorem AoH  : (AV.nilfn).cells = [AV.nilfn]:=rfl
@[simp] theorem Aq6 (i : Nat) : (AV.map i).one=true:=rfl
@[simp] theorem Apy (i : Nat) : (AV.map i).cells = [AV.map i]:=rfl
@[simp] theorem Aoo  : (AV.nilmap).one=true:=rfl
@[simp] theorem Anl  : (AV.nilmap).cells = [AV.nilmap]:=rfl
@[simp] theorem Aq9 (t : Nat) (x : AV) : (AV.ifc t x).one=true:=rfl
@[simp] theorem Ap1 (t : Nat) (x : AV) : (AV.ifc t x).cells = [AV.ifc t x]:=rfl
@[simp] theorem Aop  : (AV.nilifc).one=true:=rfl
@[simp] theorem Anm  : (AV.nilifc).cells = [AV.nilifc]:=rfl
@[simp] theorem Aru (x : AV) : (AV.nn x).one=false:=rfl
@[simp] theorem Aqd (x : AV) : (AV.nn x).cells = [AV.nn x]:=rfl
@[simp] theorem Aqc (l : List AV) : (Aaq.cells l).cs? = some l:=rfl
@[simp] theorem ArR (l : List AV) : (Aaq.grow l).cs? = some l:=rfl
@[simp] theorem Aoi (l m : List AV) : (Aaq.cells l).with m = .cells m:=rfl
@[simp] theorem Ao5 (l m : List AV) : (Aaq.grow l).with m = .grow m:=rfl
@[simp] theorem ArG (k : IntKind) (m : Int) : (AV.int k m).okc=true:=rfl
@[simp] theorem ArB (b : ByteArray) : (AV.str b).okc=true:=rfl
@[simp] theorem AqW (b : Bool) : (AV.bool b).okc=true:=rfl
@[simp] theorem ArH (l : List AV) : (AV.agg l).okc=true:=rfl
@[simp] theorem ArF (a b : Bool) (l : List AV) : (AV.lst a b l).okc=true:=rfl
@[simp] theorem AqV (l : List AV) : (AV.cptr l).okc=true:=rfl
@[simp] theorem ArD (i j : Nat) : (AV.ptr i j).okc=true:=rfl
@[simp] theorem ArC (i j e l : Nat) (f : Bool) : (AV.slc i j e l f).okc=true:=rfl
@[simp] theorem Arw (i : Nat) (l : List AV) : (AV.fn i l).okc=true:=rfl
@[simp] theorem Aoq : AV.nilptr.okc=true:=rfl
@[simp] theorem ArE (i : Nat) : (AV.map i).okc=true:=rfl
@[simp] theorem Aor : AV.nilmap.okc=true:=rfl
@[simp] theorem Aps : AaW [] = []:=rfl
@[simp] theorem AfM (x : AV) (l : List AV) : AaW (x::l)=x.cells++AaW l:=rfl
@[simp] theorem Apt (l m : List AV) : AaW (l++m)=AaW l++AaW m:=AfB l m
@[simp] theorem AlC {α : Type} (k : IntKind) (f : α→Int) (l : List α) : AaW (l.map fun x => .int k (f x))=l.map fun x => .int k (f x):=by
 induction l with
 | nil=>rfl
 | cons x l ih=>simp [ih]
@[simp] theorem Ak5 {α : Type} (k : IntKind) (f : α→Int) (S : Nat→Prop) (l : List α) : Abu S (l.map fun x => .int k (f x))↔True:=by
 induction l with
 | nil=>simp
 | cons x l ih=>simp [ih]
@[simp] theorem An4 (k : IntKind) (S : Nat→Prop) (l : List Int) : Abu S (l.map (.int k))↔True:=Ak5 k id S l
@[simp] theorem AoD (k : IntKind) (l : List Int) : AaW (l.map (.int k))=l.map (.int k):=AlC k id l
@[simp] theorem An3 (k : IntKind) (l : List Int) : okEls 1 (l.map (.int k))↔True:=iff_true_intro (Ak0 (f:=id))
@[simp] theorem Aqw (x y : AV) : Ai1 true x y=x:=rfl
@[simp] theorem Aqx (x y : AV) : Ai1 false x y=y:=rfl
@[simp] theorem Aom (b x y : Bool) : Ai1 b (.bool x) (.bool y) = .bool (if b then x else y):=by cases b <;> rfl
attribute [simp ↓] Ao7
attribute [simp] AV.fits Af0 AjY Ahv AcQ Am9 Ar6 Aeo AmQ AqA AdS AhM aun Agi Ae5 AdI Afc
theorem Ao3 (k : IntKind) {n : Int} (h1 : k.min≤n) (h2 : n≤k.max) : k.wrap n=n:=by
 cases k <;> simp [IntKind.wrap,IntKind.min,IntKind.max,IntKind.bits,IntKind.signed] at * <;> omega
theorem Ao4 {n : Int} (h1 : -9223372036854775808≤n) (h2 : n≤9223372036854775807) : IntKind.i64.wrap n=n:=Ao3 .i64 (by simpa [IntKind.min,IntKind.bits,IntKind.signed] using h1) (by simpa [IntKind.max,IntKind.bits,IntKind.signed] using h2)
end Go.Abs
