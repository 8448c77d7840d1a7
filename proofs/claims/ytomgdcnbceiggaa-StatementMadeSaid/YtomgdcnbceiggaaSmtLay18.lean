import Derived.Test.YtomgdcnbceiggaaSmtLay17
set_option linter.unusedVariables false
set_option linter.unusedSimpArgs false
namespace Go.Abs
open Go.RowKit (Below)
section
variable {P : Program} {n : Nat} {c0 : Cx} {w0 : World} {Q : Ac5} {s : Nat→AV} {H : Aah} {N : Nat}
theorem AW.seqR {id : Nat} {ops : List Oper} {draw : Bool} {y : Code} (hm : P.follows .mixedOrders=true) (mu : List Nat) (gs : List (Option (Nat×Bool))) (hok : Af4 n ops gs=true)
 (h : ∀ (G : Log→Prop) (K : (Nat→AV)→Aah→Nat→Prop),(∀ lg,(!draw||Adi ops lg)=true→G lg)→(∀ s' H' N',AW P n c0 w0 y Q s' H' N'→K s' H' N')→Aej P mu ops gs s H N [] (fun s' H' N' lg=>G lg∧K s' H' N')) :
 AW P n c0 w0 (.seq (.region id ops.toArray draw) y) Q s H N :=
 AW.seq fun K hK=>AW.region hm mu gs hok fun G K1 hG hK1=>h G K1 hG fun s' H' N' hA=>hK1 s' H' N' (hK s' H' N' hA)
theorem AW.own {c : Code} (t es : Nat) (fl : Bool) (hs : s t = .lst true fl []) (ht : decide (t<n)=true) (h : AW P n c0 w0 c Q (upd s t (.slc N 0 es 0 false)) (upd H N (some (.grow []))) (N+1)) : AW P n c0 w0 c Q s H N:=by
 intro a w ⟨cx,hr,hd,g,hu⟩
 have hv:=hr.slot t (by simpa using ht)
 rw [hs] at hv
 have hv' : a.tmps.getD t undef = .slice none 0 0:=by
  simp only [Rep] at hv
  rcases hv with ⟨_,h⟩ | ⟨h,_⟩
  ·exact h
  ·cases h
 obtain ⟨c',k1,k2,k3,k4⟩:=hr.hr.adopt (.refl cx w) (hu N (Nat.le_refl _)) (hu N (Nat.le_refl _)) (es:=es) (len:=0) (o := .grow []) (v := .slice none 0 0) (.inl ⟨rfl,rfl,_,rfl⟩)
 refine h a w ⟨c',⟨k1,hr.size,fun t' ht'=>?_⟩,hd,g.trans k2,fun i hi=>by rw [k4 i (by omega)]; exact hu i (by omega)⟩
 by_cases e : t'=t
 ·subst e; rw [Abg,hv']; exact k3
 ·rw [Acr _ _ e]; exact (hr.slot t' ht').mono k2.le _ _
theorem AW.freeze {c : Code} (t : Nat) {id off es len : Nat} {full : Bool} (hs : s t = .slc id off es len full) (ht : decide (t<n)=true) {o : Aan} {cs : List AV} (ho : H id=some o) (hc : o.cs? = some cs) (xs : List AV) (hel : okEls es xs)
 (hlen : xs.length=len) (he : AaM xs=(cs.drop off).take (len*es)) (nl : Bool) (hnl : nl=false) (h : AW P n c0 w0 c Q (upd s t (.lst nl full xs)) (upd H id none) N) : AW P n c0 w0 c Q s H N:=by
 intro a w ⟨cx,hr,hd,g,hu⟩
 have hv:=hr.slot t (by simpa using ht)
 rw [hs] at hv
 rcases Adj hr.hr ho with ⟨hemp,rfl⟩ | ⟨b,base,sz,hlive,hor⟩
 ·simp only [Rep] at hv
  obtain ⟨rfl,a0,hv'⟩:=hv.2.2.1 hemp
  subst hnl
  have : xs = []:=List.length_eq_zero_iff.1 hlen
  subst this
  obtain ⟨k1,k2⟩:=hr.hr.kill (id:=id) (by rw [hemp]; simp)
  refine h a w ⟨_,⟨k1,hr.size,fun t' ht'=>?_⟩,hd,g.trans k2,fun i hi=>?_⟩
  ·by_cases e : t'=t
   ·subst e; rw [Abg,hv']; exact Aiy _ _ _
   ·rw [Acr _ _ e]; exact (hr.slot t' ht').mono k2.le _ _
  ·have:=hu i hi
   have hne : i≠id:=by intro e; subst e; rw [hemp] at this; cases this
   simp only [upd,hne,if_false]; exact this
 ·have hng : o ≠ .grow []:=by intro e; subst e; obtain ⟨hne,_⟩:=hor; exact hne rfl
  have hn' : nl=false:=hnl
  obtain ⟨cap,p,hv',hp,h1,h2,h3,h4⟩:=Abi hv hlive
  obtain ⟨cur,Ty,fr,vs,q1,q2,q3,q4,q5,q6⟩:=hor.cs hc
  obtain ⟨k1,k2⟩:=hr.hr.freeze hlive
  refine h a w ⟨_,⟨k1,hr.size,fun t' ht'=>?_⟩,hd,g.trans k2,fun i hi=>?_⟩
  ·by_cases e : t'=t
   ·subst e
    rw [Abg,hv']
    have hr2 : AaF ⟨fun k=>cx.Z k∨k=b,upd cx.ι id .dead,cx.h⟩ (AaM xs) ((vs.drop off).take (len*es)):=by rw [he]; exact ((q5.drop off).take _).mono k2.le
    obtain ⟨us,u1,u2,u3⟩:=AiJ hel.1 hr2 (AaF.oneCell hr2 (List.all_eq_true.2 hel.2))
    have hul : us.length=len:=by rw [u1.length,hlen]
    subst hul
    simp only [Rep]
    refine .inr ⟨hn',_,b,p,cap,es,us,rfl,h1,h2,h4,fun _=>⟨rfl,.inr rfl⟩,?_,u1⟩
    by_cases hcap : 0<cap
    ·rw [AcH u3,u2,hp hcap]
     exact (q6.drop off).take _
    ·have : us = []:=List.length_eq_zero_iff.1 (by omega)
     subst this
     intro i hi; simp at hi
   ·rw [Acr _ _ e]; exact (hr.slot t' ht').mono k2.le _ _
  ·have:=hu i hi
   have hne : i≠id:=by intro e; subst e; rw [hlive] at this; cases this
   simp only [upd,hne,if_false]; exact this
end
@[simp] theorem AqH (s : Nat→AV) (d : Nat) (x : AV) : AfE s (some d) x=upd s d x:=rfl
@[simp] theorem AqI (s : Nat→AV) (x : AV) : AfE s none x=s:=rfl
theorem Apt {α : Type} (f : Nat→α) (i : Nat) (a : α) (j : Nat) : upd f i a j=if j=i then a else f j:=rfl
@[simp] theorem Ar7 (t : Nat) : mkS [] t = .undef:=rfl
@[simp] theorem ArJ (i : Nat) (x : AV) (l : List (Nat×AV)) (t : Nat) : mkS ((i,x)::l) t=if i=t then x else mkS l t:=by
 unfold mkS
 by_cases h : i=t <;> simp [h]
@[simp] theorem Ar8 (t : Nat) : mkH [] t=none:=rfl
@[simp] theorem ArK (i : Nat) (x : Aan) (l : List (Nat×Aan)) (t : Nat) : mkH ((i,x)::l) t=if i=t then some x else mkH l t:=by
 unfold mkH
 by_cases h : i=t <;> simp [h]
@[simp] theorem Ast (s : Nat→AV) (t : Nat) : ev s (.tmp t)=s t:=rfl
@[simp] theorem AsD (s : Nat→AV) (b : Bool) : ev s (.const (.bool b)) = .bool b:=rfl
@[simp] theorem Asv (s : Nat→AV) (k : IntKind) (m : Int) : ev s (.const (.int k m)) = .int k m:=rfl
@[simp] theorem Asu (s : Nat→AV) (b : ByteArray) : ev s (.const (.string b)) = .str b:=rfl
@[simp] theorem AsB (s : Nat→AV) : ev s (.const (.pointer none)) = .nilptr:=rfl
@[simp] theorem AsA (s : Nat→AV) (a b : Nat) : ev s (.const (.slice none a b)) = .lst true true []:=rfl
@[simp] theorem AsC (s : Nat→AV) (f : FuncId) : ev s (.func f) = .fn f []:=rfl
attribute [simp] ofS
attribute [simp] AV.flat Af5 AcA noIds idsIn Abn Ai8
@[simp] theorem AqM  : (AV.undef).one=false:=rfl
@[simp] theorem Aoy  : (AV.undef).cells = [AV.undef]:=rfl
@[simp] theorem ArD  : (AV.skip).one=false:=rfl
@[simp] theorem Apg  : (AV.skip).cells = [AV.skip]:=rfl
@[simp] theorem ArF (b : Bool) : (AV.bool b).one=true:=rfl
@[simp] theorem Api (b : Bool) : (AV.bool b).cells = [AV.bool b]:=rfl
@[simp] theorem Arv (k : IntKind) (n : Int) : (AV.int k n).one=true:=rfl
@[simp] theorem Aqj (k : IntKind) (n : Int) : (AV.int k n).cells = [AV.int k n]:=rfl
@[simp] theorem Arq (s : ByteArray) : (AV.str s).one=true:=rfl
@[simp] theorem Aqe (s : ByteArray) : (AV.str s).cells = [AV.str s]:=rfl
@[simp] theorem Aru (a b : Bool) (l : List AV) : (AV.lst a b l).one=true:=rfl
@[simp] theorem Aqi (a b : Bool) (l : List AV) : (AV.lst a b l).cells = [AV.lst a b l]:=rfl
@[simp] theorem ArE (l : List AV) : (AV.cptr l).one=true:=rfl
@[simp] theorem Aph (l : List AV) : (AV.cptr l).cells = [AV.cptr l]:=rfl
@[simp] theorem Ars (i j : Nat) : (AV.ptr i j).one=true:=rfl
@[simp] theorem Aqg (i j : Nat) : (AV.ptr i j).cells = [AV.ptr i j]:=rfl
@[simp] theorem ApY  : (AV.nilptr).one=true:=rfl
@[simp] theorem AoR  : (AV.nilptr).cells = [AV.nilptr]:=rfl
@[simp] theorem Arr (i j e l : Nat) (f : Bool) : (AV.slc i j e l f).one=true:=rfl
@[simp] theorem Aqf (i j e l : Nat) (f : Bool) : (AV.slc i j e l f).cells = [AV.slc i j e l f]:=rfl
@[simp] theorem Arx (l : List AV) : (AV.agg l).one=false:=rfl
@[simp] theorem Aql (l : List AV) : (AV.agg l).cells=l:=rfl
@[simp] theorem Arp (l : List AV) : (AV.tup l).one=false:=rfl
@[simp] theorem Aqd (l : List AV) : (AV.tup l).cells = [AV.tup l]:=rfl
@[simp] theorem Ash (f : Nat) (l : List AV) : (AV.fn f l).one=true:=rfl
@[simp] theorem ArR (f : Nat) (l : List AV) : (AV.fn f l).cells = [AV.fn f l]:=rfl
@[simp] theorem AqN  : (AV.nilfn).one=true:=rfl
@[simp] theorem Aoz  : (AV.nilfn).cells = [AV.nilfn]:=rfl
@[simp] theorem Art (i : Nat) : (AV.map i).one=true:=rfl
@[simp] theorem Aqh (i : Nat) : (AV.map i).cells = [AV.map i]:=rfl
@[simp] theorem ApZ  : (AV.nilmap).one=true:=rfl
@[simp] theorem AoS  : (AV.nilmap).cells = [AV.nilmap]:=rfl
@[simp] theorem Arw (t : Nat) (x : AV) : (AV.ifc t x).one=true:=rfl
@[simp] theorem Aqk (t : Nat) (x : AV) : (AV.ifc t x).cells = [AV.ifc t x]:=rfl
@[simp] theorem Apa  : (AV.nilifc).one=true:=rfl
@[simp] theorem AoT  : (AV.nilifc).cells = [AV.nilifc]:=rfl
@[simp] theorem Asg (x : AV) : (AV.nn x).one=false:=rfl
@[simp] theorem Asf (x : AV) : (AV.rm x).one=false:=rfl
@[simp] theorem ArQ (x : AV) : (AV.nn x).cells = [AV.nn x]:=rfl
@[simp] theorem ArP (x : AV) : (AV.rm x).cells = [AV.rm x]:=rfl
@[simp] theorem ArO (l : List AV) : (Aan.cells l).cs? = some l:=rfl
@[simp] theorem AsE (l : List AV) : (Aan.grow l).cs? = some l:=rfl
@[simp] theorem ApS (l m : List AV) : (Aan.cells l).with m = .cells m:=rfl
@[simp] theorem Apr (l m : List AV) : (Aan.grow l).with m = .grow m:=rfl
@[simp] theorem Ar3 (k : IntKind) (m : Int) : (AV.int k m).okc=true:=rfl
@[simp] theorem Ary (b : ByteArray) : (AV.str b).okc=true:=rfl
@[simp] theorem ArH (b : Bool) : (AV.bool b).okc=true:=rfl
@[simp] theorem Ar4 (l : List AV) : (AV.agg l).okc=true:=rfl
@[simp] theorem Ar2 (a b : Bool) (l : List AV) : (AV.lst a b l).okc=true:=rfl
@[simp] theorem ArG (l : List AV) : (AV.cptr l).okc=true:=rfl
@[simp] theorem Ar0 (i j : Nat) : (AV.ptr i j).okc=true:=rfl
@[simp] theorem Arz (i j e l : Nat) (f : Bool) : (AV.slc i j e l f).okc=true:=rfl
@[simp] theorem Asi (i : Nat) (l : List AV) : (AV.fn i l).okc=true:=rfl
@[simp] theorem Apb : AV.nilptr.okc=true:=rfl
@[simp] theorem Ar1 (i : Nat) : (AV.map i).okc=true:=rfl
@[simp] theorem Apc : AV.nilmap.okc=true:=rfl
@[simp] theorem Aqc : AaM [] = []:=rfl
@[simp] theorem Aet (x : AV) (l : List AV) : AaM (x::l)=x.cells++AaM l:=rfl
@[simp] theorem Aj5 (l m : List AV) : AaM (l++m)=AaM l++AaM m:=AfW l m
@[simp] theorem Aln {α : Type} (k : IntKind) (f : α→Int) (l : List α) : AaM (l.map fun x => .int k (f x))=l.map fun x => .int k (f x):=by
 induction l with
 | nil=>rfl
 | cons x l ih=>simp [ih]
@[simp] theorem Alf {α : Type} (k : IntKind) (f : α→Int) (S : Nat→Prop) (l : List α) : Abn S (l.map fun x => .int k (f x))↔True:=by
 induction l with
 | nil=>simp
 | cons x l ih=>simp [ih]
@[simp] theorem Aok (k : IntKind) (S : Nat→Prop) (l : List Int) : Abn S (l.map (.int k))↔True:=Alf k id S l
@[simp] theorem Aov (k : IntKind) (l : List Int) : AaM (l.map (.int k))=l.map (.int k):=Aln k id l
@[simp] theorem Aoj (k : IntKind) (l : List Int) : okEls 1 (l.map (.int k))↔True:=iff_true_intro (Ala (f:=id))
@[simp] theorem Ari (x y : AV) : Ajg true x y=x:=rfl
@[simp] theorem Arj (x y : AV) : Ajg false x y=y:=rfl
@[simp] theorem ApX (b x y : Bool) : Ajg b (.bool x) (.bool y) = .bool (if b then x else y):=by cases b <;> rfl
attribute [simp ↓] Apt
attribute [simp] AV.fits AgP AkE AiY AcY Anr Ass Ae9 Am8 Aqu Adm Ahx aun AhC AfQ Adb Af0
theorem Apo (k : IntKind) {n : Int} (h1 : k.min≤n) (h2 : n≤k.max) : k.wrap n=n:=by
 cases k <;> simp [IntKind.wrap,IntKind.min,IntKind.max,IntKind.bits,IntKind.signed] at * <;> omega
theorem Apq {n : Int} (h1 : -9223372036854775808≤n) (h2 : n≤9223372036854775807) : IntKind.i64.wrap n=n:=Apo .i64 (by simpa [IntKind.min,IntKind.bits,IntKind.signed] using h1) (by simpa [IntKind.max,IntKind.bits,IntKind.signed] using h2)
end Go.Abs
