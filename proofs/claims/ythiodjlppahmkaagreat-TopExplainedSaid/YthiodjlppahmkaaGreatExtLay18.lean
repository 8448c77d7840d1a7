import Derived.Test.YthiodjlppahmkaaGreatExtLay17
set_option linter.unusedVariables false
set_option linter.unusedSimpArgs false
namespace Go.Abs
open Go.RowKit (Below)
section
variable {P : Program} {n : Nat} {c0 : Cx} {w0 : World} {Q : AcH} {s : Nat→AV} {H : Aac} {N : Nat}
theorem AW.seqR {id : Nat} {ops : List Oper} {draw : Bool} {y : Code} (hm : P.follows .mixedOrders=true) (mu : List Nat) (gs : List (Option (Nat×Bool))) (hok : Ael n ops gs=true)
 (h : ∀ (G : Log→Prop) (K : (Nat→AV)→Aac→Nat→Prop),(∀ lg,(!draw||Abi ops lg)=true→G lg)→(∀ s' H' N',AW P n c0 w0 y Q s' H' N'→K s' H' N')→Ad7 P mu ops gs s H N [] (fun s' H' N' lg=>G lg∧K s' H' N')) :
 AW P n c0 w0 (.seq (.region id ops.toArray draw) y) Q s H N :=
 AW.seq fun K hK=>AW.region hm mu gs hok fun G K1 hG hK1=>h G K1 hG fun s' H' N' hA=>hK1 s' H' N' (hK s' H' N' hA)
theorem AW.mid {x y : Code} (M : (Nat→AV)→Aac→Nat→Prop) (h1 : ∀ K : (Nat→AV)→Aac→Nat→Prop,(∀ s H N,M s H N→K s H N)→AW P n c0 w0 x (AcH.then K Q) s H N) (h2 : ∀ s H N,M s H N→AW P n c0 w0 y Q s H N) : AW P n c0 w0 (.seq x y) Q s H N :=
 AW.seq fun K hK=>h1 K fun s H N hM=>hK s H N (h2 s H N hM)
theorem AW.repFact {c : Code} {p : Prop} (t : Nat) (ht : decide (t<n)=true) (hp : ∀ c v,Rep c (s t) v→p) (h : p→AW P n c0 w0 c Q s H N) : AW P n c0 w0 c Q s H N:=by
 intro a w hs
 obtain ⟨cx,_,hr⟩:=hs.eval (t:=t) (by simpa using ht)
 exact h (hp cx _ hr) a w hs
theorem AW.lenFact {c : Code} (t : Nat) (ht : decide (t<n)=true) {nl fl : Bool} {xs : List AV} (hs : s t = .lst nl fl xs) (h : xs.length≤maxLen→AW P n c0 w0 c Q s H N) : AW P n c0 w0 c Q s H N :=
 AW.repFact t ht (fun c v hr=>by
  rw [hs] at hr
  obtain ⟨_,cap,_,h1,h2,_⟩:=Aek hr
  omega) h
theorem AW.own {c : Code} (t es : Nat) (fl : Bool) (hs : s t = .lst true fl []) (ht : decide (t<n)=true) (h : AW P n c0 w0 c Q (upd s t (.slc N 0 es 0 false)) (upd H N (some (.grow []))) (N+1)) : AW P n c0 w0 c Q s H N:=by
 intro a w ⟨cx,hr,hd,g,hu⟩
 have hv:=hr.slot t (by simpa using ht)
 rw [hs] at hv
 have hv' : a.tmps.getD t undef = .slice none 0 0:=by
  simp only [Rep] at hv
  rcases hv with ⟨_,h⟩ | ⟨h,_⟩
  ·exact h
  ·cases h
 obtain ⟨c',k1,k2,k3,k4⟩:=hr.hr.adopt (.refl cx w) (hu N (Nat.le_refl _)) (hu N (Nat.le_refl _)) (es:=es) (len:=0) (o := .grow []) (v := .slice none 0 0) (.inl ⟨rfl,rfl,_,rfl⟩)
 refine h a w ⟨c',⟨k1,hr.size,fun t' ht'=>?_⟩,hd,g.trans k2,fun i hi=>by rw [k4 i (by omega)]; exact hu i (by omega)⟩
 by_cases e : t'=t
 ·subst e; rw [AbR,hv']; exact k3
 ·rw [AbV _ _ e]; exact (hr.slot t' ht').mono k2.le _ _
theorem AW.freeze {c : Code} (t : Nat) {id off es len : Nat} {full : Bool} (hs : s t = .slc id off es len full) (ht : decide (t<n)=true) {o : AaZ} {cs : List AV} (ho : H id=some o) (hc : o.cs? = some cs) (xs : List AV) (hel : okEls es xs)
 (hlen : xs.length=len) (he : AaI xs=(cs.drop off).take (len*es)) (nl : Bool) (hnl : nl=false) (h : AW P n c0 w0 c Q (upd s t (.lst nl full xs)) (upd H id none) N) : AW P n c0 w0 c Q s H N:=by
 intro a w ⟨cx,hr,hd,g,hu⟩
 have hv:=hr.slot t (by simpa using ht)
 rw [hs] at hv
 rcases AdX hr.hr ho with ⟨hemp,rfl⟩ | ⟨b,base,sz,hlive,hor⟩
 ·simp only [Rep] at hv
  obtain ⟨rfl,a0,hv'⟩:=hv.2.2.1 hemp
  subst hnl
  have : xs = []:=List.length_eq_zero_iff.1 hlen
  subst this
  obtain ⟨k1,k2⟩:=hr.hr.kill (id:=id) (by rw [hemp]; simp)
  refine h a w ⟨_,⟨k1,hr.size,fun t' ht'=>?_⟩,hd,g.trans k2,fun i hi=>?_⟩
  ·by_cases e : t'=t
   ·subst e; rw [AbR,hv']; exact Akf _ _ _
   ·rw [AbV _ _ e]; exact (hr.slot t' ht').mono k2.le _ _
  ·have:=hu i hi
   have hne : i≠id:=by intro e; subst e; rw [hemp] at this; cases this
   simp only [upd,hne,if_false]; exact this
 ·have hng : o ≠ .grow []:=by intro e; subst e; obtain ⟨hne,_⟩:=hor; exact hne rfl
  have hn' : nl=false:=hnl
  obtain ⟨cap,p,hv',hp,h1,h2,h3,h4⟩:=Abd hv hlive
  obtain ⟨cur,Ty,fr,vs,q1,q2,q3,q4,q5,q6⟩:=hor.cs hc
  obtain ⟨k1,k2⟩:=hr.hr.freeze hlive
  refine h a w ⟨_,⟨k1,hr.size,fun t' ht'=>?_⟩,hd,g.trans k2,fun i hi=>?_⟩
  ·by_cases e : t'=t
   ·subst e
    rw [AbR,hv']
    have hr2 : AaD ⟨fun k=>cx.Z k∨k=b,upd cx.ι id .dead,cx.h⟩ (AaI xs) ((vs.drop off).take (len*es)):=by rw [he]; exact ((q5.drop off).take _).mono k2.le
    obtain ⟨us,u1,u2,u3⟩:=Ajg hel.1 hr2 (AaD.oneCell hr2 (List.all_eq_true.2 hel.2))
    have hul : us.length=len:=by rw [u1.length,hlen]
    subst hul
    simp only [Rep]
    refine .inr ⟨hn',_,b,p,cap,es,us,rfl,h1,h2,h4,fun _=>⟨rfl,.inr rfl⟩,?_,u1⟩
    by_cases hcap : 0<cap
    ·rw [Ab5 u3,u2,hp hcap]
     exact (q6.drop off).take _
    ·have : us = []:=List.length_eq_zero_iff.1 (by omega)
     subst this
     intro i hi; simp at hi
   ·rw [AbV _ _ e]; exact (hr.slot t' ht').mono k2.le _ _
  ·have:=hu i hi
   have hne : i≠id:=by intro e; subst e; rw [hlive] at this; cases this
   simp only [upd,hne,if_false]; exact this
end
@[simp] theorem AvD (s : Nat→AV) (d : Nat) (x : AV) : Ag0 s (some d) x=upd s d x:=rfl
@[simp] theorem AvE (s : Nat→AV) (x : AV) : Ag0 s none x=s:=rfl
theorem Aut {α : Type} (f : Nat→α) (i : Nat) (a : α) (j : Nat) : upd f i a j=if j=i then a else f j:=rfl
@[simp] theorem AxX (t : Nat) : mkS [] t = .undef:=rfl
@[simp] theorem Awd (i : Nat) (x : AV) (l : List (Nat×AV)) (t : Nat) : mkS ((i,x)::l) t=if i=t then x else mkS l t:=by
 unfold mkS
 by_cases h : i=t <;> simp [h]
@[simp] theorem AxY (t : Nat) : mkH [] t=none:=rfl
@[simp] theorem Awe (i : Nat) (x : AaZ) (l : List (Nat×AaZ)) (t : Nat) : mkH ((i,x)::l) t=if i=t then some x else mkH l t:=by
 unfold mkH
 by_cases h : i=t <;> simp [h]
@[simp] theorem AyP (s : Nat→AV) (t : Nat) : ev s (.tmp t)=s t:=rfl
@[simp] theorem Axm (s : Nat→AV) (b : Bool) : ev s (.const (.bool b)) = .bool b:=rfl
@[simp] theorem AyR (s : Nat→AV) (k : IntKind) (m : Int) : ev s (.const (.int k m)) = .int k m:=rfl
@[simp] theorem AyQ (s : Nat→AV) (b : ByteArray) : ev s (.const (.string b)) = .str b:=rfl
@[simp] theorem Axk (s : Nat→AV) : ev s (.const (.pointer none)) = .nilptr:=rfl
@[simp] theorem Axj (s : Nat→AV) (a b : Nat) : ev s (.const (.slice none a b)) = .lst true true []:=rfl
@[simp] theorem Axl (s : Nat→AV) (f : FuncId) : ev s (.func f) = .fn f []:=rfl
attribute [simp] ofS
attribute [simp] AV.flat Agi Afk noIds idsIn AbP Akw
@[simp] theorem AvM  : (AV.undef).one=false:=rfl
@[simp] theorem At5  : (AV.undef).cells = [AV.undef]:=rfl
@[simp] theorem AwV  : (AV.skip).one=false:=rfl
@[simp] theorem Aug  : (AV.skip).cells = [AV.skip]:=rfl
@[simp] theorem AwX (b : Bool) : (AV.bool b).one=true:=rfl
@[simp] theorem Aui (b : Bool) : (AV.bool b).cells = [AV.bool b]:=rfl
@[simp] theorem AxI (k : IntKind) (n : Int) : (AV.int k n).one=true:=rfl
@[simp] theorem Avy (k : IntKind) (n : Int) : (AV.int k n).cells = [AV.int k n]:=rfl
@[simp] theorem AxD (s : ByteArray) : (AV.str s).one=true:=rfl
@[simp] theorem Avt (s : ByteArray) : (AV.str s).cells = [AV.str s]:=rfl
@[simp] theorem AxH (a b : Bool) (l : List AV) : (AV.lst a b l).one=true:=rfl
@[simp] theorem Avx (a b : Bool) (l : List AV) : (AV.lst a b l).cells = [AV.lst a b l]:=rfl
@[simp] theorem AwW (l : List AV) : (AV.cptr l).one=true:=rfl
@[simp] theorem Auh (l : List AV) : (AV.cptr l).cells = [AV.cptr l]:=rfl
@[simp] theorem AxF (i j : Nat) : (AV.ptr i j).one=true:=rfl
@[simp] theorem Avv (i j : Nat) : (AV.ptr i j).cells = [AV.ptr i j]:=rfl
@[simp] theorem AuO  : (AV.nilptr).one=true:=rfl
@[simp] theorem Aso  : (AV.nilptr).cells = [AV.nilptr]:=rfl
@[simp] theorem AxE (i j e l : Nat) (f : Bool) : (AV.slc i j e l f).one=true:=rfl
@[simp] theorem Avu (i j e l : Nat) (f : Bool) : (AV.slc i j e l f).cells = [AV.slc i j e l f]:=rfl
@[simp] theorem AxK (l : List AV) : (AV.agg l).one=false:=rfl
@[simp] theorem Av0 (l : List AV) : (AV.agg l).cells=l:=rfl
@[simp] theorem AxC (l : List AV) : (AV.tup l).one=false:=rfl
@[simp] theorem Avs (l : List AV) : (AV.tup l).cells = [AV.tup l]:=rfl
@[simp] theorem Ax9 (f : Nat) (l : List AV) : (AV.fn f l).one=true:=rfl
@[simp] theorem Awq (f : Nat) (l : List AV) : (AV.fn f l).cells = [AV.fn f l]:=rfl
@[simp] theorem AvN  : (AV.nilfn).one=true:=rfl
@[simp] theorem At6  : (AV.nilfn).cells = [AV.nilfn]:=rfl
@[simp] theorem AxG (i : Nat) : (AV.map i).one=true:=rfl
@[simp] theorem Avw (i : Nat) : (AV.map i).cells = [AV.map i]:=rfl
@[simp] theorem AuP  : (AV.nilmap).one=true:=rfl
@[simp] theorem Asp  : (AV.nilmap).cells = [AV.nilmap]:=rfl
@[simp] theorem AxJ (t : Nat) (x : AV) : (AV.ifc t x).one=true:=rfl
@[simp] theorem Avz (t : Nat) (x : AV) : (AV.ifc t x).cells = [AV.ifc t x]:=rfl
@[simp] theorem AuQ  : (AV.nilifc).one=true:=rfl
@[simp] theorem Asq  : (AV.nilifc).cells = [AV.nilifc]:=rfl
@[simp] theorem Ax8 (x : AV) : (AV.nn x).one=false:=rfl
@[simp] theorem Ax7 (x : AV) : (AV.rm x).one=false:=rfl
@[simp] theorem Awp (x : AV) : (AV.nn x).cells = [AV.nn x]:=rfl
@[simp] theorem Awo (x : AV) : (AV.rm x).cells = [AV.rm x]:=rfl
@[simp] theorem Awm (l : List AV) : (AaZ.cells l).cs? = some l:=rfl
@[simp] theorem Axu (l : List AV) : (AaZ.grow l).cs? = some l:=rfl
@[simp] theorem AuI (l m : List AV) : (AaZ.cells l).with m = .cells m:=rfl
@[simp] theorem Auq (l m : List AV) : (AaZ.grow l).with m = .grow m:=rfl
@[simp] theorem AxR (k : IntKind) (m : Int) : (AV.int k m).okc=true:=rfl
@[simp] theorem AxM (b : ByteArray) : (AV.str b).okc=true:=rfl
@[simp] theorem AwZ (b : Bool) : (AV.bool b).okc=true:=rfl
@[simp] theorem AxS (l : List AV) : (AV.agg l).okc=true:=rfl
@[simp] theorem AxQ (a b : Bool) (l : List AV) : (AV.lst a b l).okc=true:=rfl
@[simp] theorem AwY (l : List AV) : (AV.cptr l).okc=true:=rfl
@[simp] theorem AxO (i j : Nat) : (AV.ptr i j).okc=true:=rfl
@[simp] theorem AxN (i j e l : Nat) (f : Bool) : (AV.slc i j e l f).okc=true:=rfl
@[simp] theorem AyA (i : Nat) (l : List AV) : (AV.fn i l).okc=true:=rfl
@[simp] theorem AuR : AV.nilptr.okc=true:=rfl
@[simp] theorem AxP (i : Nat) : (AV.map i).okc=true:=rfl
@[simp] theorem AuS : AV.nilmap.okc=true:=rfl
@[simp] theorem Avh : AaI [] = []:=rfl
@[simp] theorem AeD (x : AV) (l : List AV) : AaI (x::l)=x.cells++AaI l:=rfl
@[simp] theorem AdK (l m : List AV) : AaI (l++m)=AaI l++AaI m:=Afr l m
@[simp] theorem Aoz {α : Type} (k : IntKind) (f : α→Int) (l : List α) : AaI (l.map fun x => .int k (f x))=l.map fun x => .int k (f x):=by
 induction l with
 | nil=>rfl
 | cons x l ih=>simp [ih]
@[simp] theorem Aoo {α : Type} (k : IntKind) (f : α→Int) (S : Nat→Prop) (l : List α) : AbP S (l.map fun x => .int k (f x))↔True:=by
 induction l with
 | nil=>simp
 | cons x l ih=>simp [ih]
@[simp] theorem AtO (k : IntKind) (S : Nat→Prop) (l : List Int) : AbP S (l.map (.int k))↔True:=Aoo k id S l
@[simp] theorem AnJ (k : IntKind) (l : List Int) : AaI (l.map (.int k))=l.map (.int k):=Aoz k id l
@[simp] theorem AtM (k : IntKind) (l : List Int) : okEls 1 (l.map (.int k))↔True:=iff_true_intro (Aol (f:=id))
@[simp] theorem Aw8 (x y : AV) : Akk true x y=x:=rfl
@[simp] theorem Aw9 (x y : AV) : Akk false x y=y:=rfl
@[simp] theorem AuN (b x y : Bool) : Akk b (.bool x) (.bool y) = .bool (if b then x else y):=by cases b <;> rfl
attribute [simp ↓] Aut
attribute [simp] AV.fits AgV AkB Aj2 AcE Al6 AuX AeL Aqy Auo AdZ AjG aun AhM Ad2 Ad1 Afc
theorem Aw1 (k : IntKind) {n : Int} (h1 : k.min≤n) (h2 : n≤k.max) : k.wrap n=n:=by
 cases k <;> simp [IntKind.wrap,IntKind.min,IntKind.max,IntKind.bits,IntKind.signed] at * <;> omega
theorem AnY {n : Int} (h1 : -9223372036854775808≤n) (h2 : n≤9223372036854775807) : IntKind.i64.wrap n=n:=Aw1 .i64 (by simpa [IntKind.min,IntKind.bits,IntKind.signed] using h1) (by simpa [IntKind.max,IntKind.bits,IntKind.signed] using h2)
end Go.Abs
