import Derived.Test.YtelffnegemdicaaMdtLay17
set_option linter.unusedVariables false
set_option linter.unusedSimpArgs false
namespace Go.Abs
open Go.RowKit (Below)
section
variable {P : Program} {n : Nat} {c0 : Cx} {w0 : World} {Q : Ace} {s : Nat→AV} {H : Aai} {N : Nat}
theorem AW.seqR {id : Nat} {ops : List Oper} {draw : Bool} {y : Code} (hm : P.follows .mixedOrders=true) (mu : List Nat) (gs : List (Option (Nat×Bool))) (hok : AeG n ops gs=true)
 (h : ∀ (G : Log→Prop) (K : (Nat→AV)→Aai→Nat→Prop),(∀ lg,(!draw||Aby ops lg)=true→G lg)→(∀ s' H' N',AW P n c0 w0 y Q s' H' N'→K s' H' N')→Adw P mu ops gs s H N [] (fun s' H' N' lg=>G lg∧K s' H' N')) :
 AW P n c0 w0 (.seq (.region id ops.toArray draw) y) Q s H N :=
 AW.seq fun K hK=>AW.region hm mu gs hok fun G K1 hG hK1=>h G K1 hG fun s' H' N' hA=>hK1 s' H' N' (hK s' H' N' hA)
theorem AW.mid {x y : Code} (M : (Nat→AV)→Aai→Nat→Prop) (h1 : ∀ K : (Nat→AV)→Aai→Nat→Prop,(∀ s H N,M s H N→K s H N)→AW P n c0 w0 x (Ace.then K Q) s H N) (h2 : ∀ s H N,M s H N→AW P n c0 w0 y Q s H N) : AW P n c0 w0 (.seq x y) Q s H N :=
 AW.seq fun K hK=>h1 K fun s H N hM=>hK s H N (h2 s H N hM)
theorem AW.repFact {c : Code} {p : Prop} (t : Nat) (ht : decide (t<n)=true) (hp : ∀ c v,Rep c (s t) v→p) (h : p→AW P n c0 w0 c Q s H N) : AW P n c0 w0 c Q s H N:=by
 intro a w hs
 obtain ⟨cx,_,hr⟩:=hs.eval (t:=t) (by simpa using ht)
 exact h (hp cx _ hr) a w hs
theorem AW.lenFact {c : Code} (t : Nat) (ht : decide (t<n)=true) {nl fl : Bool} {xs : List AV} (hs : s t = .lst nl fl xs) (h : xs.length≤maxLen→AW P n c0 w0 c Q s H N) : AW P n c0 w0 c Q s H N :=
 AW.repFact t ht (fun c v hr=>by
  rw [hs] at hr
  obtain ⟨_,cap,_,h1,h2,_⟩:=Aem hr
  omega) h
theorem AW.own {c : Code} (t es : Nat) (fl : Bool) (hs : s t = .lst true fl []) (ht : decide (t<n)=true) (h : AW P n c0 w0 c Q (upd s t (.slc N 0 es 0 false)) (upd H N (some (.grow []))) (N+1)) : AW P n c0 w0 c Q s H N:=by
 intro a w ⟨cx,hr,hd,g,hu⟩
 have hv:=hr.slot t (by simpa using ht)
 rw [hs] at hv
 have hv' : a.tmps.getD t undef = .slice none 0 0:=by
  simp only [Rep] at hv
  rcases hv with ⟨_,h⟩ | ⟨h,_⟩
  ·exact h
  ·cases h
 obtain ⟨c',k1,k2,k3,k4⟩:=hr.hr.adopt (.refl cx w) (hu N (Nat.le_refl _)) (hu N (Nat.le_refl _)) (es:=es) (len:=0) (o := .grow []) (v := .slice none 0 0) (.inl ⟨rfl,rfl,_,rfl⟩)
 refine h a w ⟨c',⟨k1,hr.size,fun t' ht'=>?_⟩,hd,g.trans k2,fun i hi=>by rw [k4 i (by omega)]; exact hu i (by omega)⟩
 by_cases e : t'=t
 ·subst e; rw [AbZ,hv']; exact k3
 ·rw [AbW _ _ e]; exact (hr.slot t' ht').mono k2.le _ _
theorem AW.freeze {c : Code} (t : Nat) {id off es len : Nat} {full : Bool} (hs : s t = .slc id off es len full) (ht : decide (t<n)=true) {o : Aah} {cs : List AV} (ho : H id=some o) (hc : o.cs? = some cs) (xs : List AV) (hel : okEls es xs)
 (hlen : xs.length=len) (he : AaO xs=(cs.drop off).take (len*es)) (nl : Bool) (hnl : nl=false) (h : AW P n c0 w0 c Q (upd s t (.lst nl full xs)) (upd H id none) N) : AW P n c0 w0 c Q s H N:=by
 intro a w ⟨cx,hr,hd,g,hu⟩
 have hv:=hr.slot t (by simpa using ht)
 rw [hs] at hv
 rcases AdU hr.hr ho with ⟨hemp,rfl⟩ | ⟨b,base,sz,hlive,hor⟩
 ·simp only [Rep] at hv
  obtain ⟨rfl,a0,hv'⟩:=hv.2.2.1 hemp
  subst hnl
  have : xs = []:=List.length_eq_zero_iff.1 hlen
  subst this
  obtain ⟨k1,k2⟩:=hr.hr.kill (id:=id) (by rw [hemp]; simp)
  refine h a w ⟨_,⟨k1,hr.size,fun t' ht'=>?_⟩,hd,g.trans k2,fun i hi=>?_⟩
  ·by_cases e : t'=t
   ·subst e; rw [AbZ,hv']; exact AjL _ _ _
   ·rw [AbW _ _ e]; exact (hr.slot t' ht').mono k2.le _ _
  ·have:=hu i hi
   have hne : i≠id:=by intro e; subst e; rw [hemp] at this; cases this
   simp only [upd,hne,if_false]; exact this
 ·have hng : o ≠ .grow []:=by intro e; subst e; obtain ⟨hne,_⟩:=hor; exact hne rfl
  have hn' : nl=false:=hnl
  obtain ⟨cap,p,hv',hp,h1,h2,h3,h4⟩:=Abk hv hlive
  obtain ⟨cur,Ty,fr,vs,q1,q2,q3,q4,q5,q6⟩:=hor.cs hc
  obtain ⟨k1,k2⟩:=hr.hr.freeze hlive
  refine h a w ⟨_,⟨k1,hr.size,fun t' ht'=>?_⟩,hd,g.trans k2,fun i hi=>?_⟩
  ·by_cases e : t'=t
   ·subst e
    rw [AbZ,hv']
    have hr2 : AaF ⟨fun k=>cx.Z k∨k=b,upd cx.ι id .dead,cx.h⟩ (AaO xs) ((vs.drop off).take (len*es)):=by rw [he]; exact ((q5.drop off).take _).mono k2.le
    obtain ⟨us,u1,u2,u3⟩:=Aib hel.1 hr2 (AaF.oneCell hr2 (List.all_eq_true.2 hel.2))
    have hul : us.length=len:=by rw [u1.length,hlen]
    subst hul
    simp only [Rep]
    refine .inr ⟨hn',_,b,p,cap,es,us,rfl,h1,h2,h4,fun _=>⟨rfl,.inr rfl⟩,?_,u1⟩
    by_cases hcap : 0<cap
    ·rw [Ab9 u3,u2,hp hcap]
     exact (q6.drop off).take _
    ·have : us = []:=List.length_eq_zero_iff.1 (by omega)
     subst this
     intro i hi; simp at hi
   ·rw [AbW _ _ e]; exact (hr.slot t' ht').mono k2.le _ _
  ·have:=hu i hi
   have hne : i≠id:=by intro e; subst e; rw [hlive] at this; cases this
   simp only [upd,hne,if_false]; exact this
end
@[simp] theorem Ar6 (s : Nat→AV) (d : Nat) (x : AV) : Ab6 s (some d) x=upd s d x:=rfl
@[simp] theorem Ar7 (s : Nat→AV) (x : AV) : Ab6 s none x=s:=rfl
theorem Arr {α : Type} (f : Nat→α) (i : Nat) (a : α) (j : Nat) : upd f i a j=if j=i then a else f j:=rfl
@[simp] theorem AuJ (t : Nat) : mkS [] t = .undef:=rfl
@[simp] theorem AtW (i : Nat) (x : AV) (l : List (Nat×AV)) (t : Nat) : mkS ((i,x)::l) t=if i=t then x else mkS l t:=by
 unfold mkS
 by_cases h : i=t <;> simp [h]
@[simp] theorem AuK (t : Nat) : mkH [] t=none:=rfl
@[simp] theorem Aep (i : Nat) (x : Aah) (l : List (Nat×Aah)) (t : Nat) : mkH ((i,x)::l) t=if i=t then some x else mkH l t:=by
 unfold mkH
 by_cases h : i=t <;> simp [h]
@[simp] theorem AvA (s : Nat→AV) (t : Nat) : ev s (.tmp t)=s t:=rfl
@[simp] theorem AuW (s : Nat→AV) (b : Bool) : ev s (.const (.bool b)) = .bool b:=rfl
@[simp] theorem AvC (s : Nat→AV) (k : IntKind) (m : Int) : ev s (.const (.int k m)) = .int k m:=rfl
@[simp] theorem AvB (s : Nat→AV) (b : ByteArray) : ev s (.const (.string b)) = .str b:=rfl
@[simp] theorem AuU (s : Nat→AV) : ev s (.const (.pointer none)) = .nilptr:=rfl
@[simp] theorem AuT (s : Nat→AV) (a b : Nat) : ev s (.const (.slice none a b)) = .lst true true []:=rfl
@[simp] theorem AuV (s : Nat→AV) (f : FuncId) : ev s (.func f) = .fn f []:=rfl
attribute [simp] ofS
attribute [simp] AV.flat Af8 AfH noIds idsIn Abc Ajc
@[simp] theorem AsD  : (AV.undef).one=false:=rfl
@[simp] theorem Aqy  : (AV.undef).cells = [AV.undef]:=rfl
@[simp] theorem AtN  : (AV.skip).one=false:=rfl
@[simp] theorem Arg  : (AV.skip).cells = [AV.skip]:=rfl
@[simp] theorem AtP (b : Bool) : (AV.bool b).one=true:=rfl
@[simp] theorem Ari (b : Bool) : (AV.bool b).cells = [AV.bool b]:=rfl
@[simp] theorem Atz (k : IntKind) (n : Int) : (AV.int k n).one=true:=rfl
@[simp] theorem Asv (k : IntKind) (n : Int) : (AV.int k n).cells = [AV.int k n]:=rfl
@[simp] theorem Atu (s : ByteArray) : (AV.str s).one=true:=rfl
@[simp] theorem Asq (s : ByteArray) : (AV.str s).cells = [AV.str s]:=rfl
@[simp] theorem Aty (a b : Bool) (l : List AV) : (AV.lst a b l).one=true:=rfl
@[simp] theorem Asu (a b : Bool) (l : List AV) : (AV.lst a b l).cells = [AV.lst a b l]:=rfl
@[simp] theorem AtO (l : List AV) : (AV.cptr l).one=true:=rfl
@[simp] theorem Arh (l : List AV) : (AV.cptr l).cells = [AV.cptr l]:=rfl
@[simp] theorem Atw (i j : Nat) : (AV.ptr i j).one=true:=rfl
@[simp] theorem Ass (i j : Nat) : (AV.ptr i j).cells = [AV.ptr i j]:=rfl
@[simp] theorem ArQ  : (AV.nilptr).one=true:=rfl
@[simp] theorem Apu  : (AV.nilptr).cells = [AV.nilptr]:=rfl
@[simp] theorem Atv (i j e l : Nat) (f : Bool) : (AV.slc i j e l f).one=true:=rfl
@[simp] theorem Asr (i j e l : Nat) (f : Bool) : (AV.slc i j e l f).cells = [AV.slc i j e l f]:=rfl
@[simp] theorem At1 (l : List AV) : (AV.agg l).one=false:=rfl
@[simp] theorem Asx (l : List AV) : (AV.agg l).cells=l:=rfl
@[simp] theorem Att (l : List AV) : (AV.tup l).one=false:=rfl
@[simp] theorem Asp (l : List AV) : (AV.tup l).cells = [AV.tup l]:=rfl
@[simp] theorem Auu (f : Nat) (l : List AV) : (AV.fn f l).one=true:=rfl
@[simp] theorem Ath (f : Nat) (l : List AV) : (AV.fn f l).cells = [AV.fn f l]:=rfl
@[simp] theorem AsE  : (AV.nilfn).one=true:=rfl
@[simp] theorem Aqz  : (AV.nilfn).cells = [AV.nilfn]:=rfl
@[simp] theorem Atx (i : Nat) : (AV.map i).one=true:=rfl
@[simp] theorem Ast (i : Nat) : (AV.map i).cells = [AV.map i]:=rfl
@[simp] theorem ArR  : (AV.nilmap).one=true:=rfl
@[simp] theorem Apv  : (AV.nilmap).cells = [AV.nilmap]:=rfl
@[simp] theorem At0 (t : Nat) (x : AV) : (AV.ifc t x).one=true:=rfl
@[simp] theorem Asw (t : Nat) (x : AV) : (AV.ifc t x).cells = [AV.ifc t x]:=rfl
@[simp] theorem ArS  : (AV.nilifc).one=true:=rfl
@[simp] theorem Apw  : (AV.nilifc).cells = [AV.nilifc]:=rfl
@[simp] theorem Aut (x : AV) : (AV.nn x).one=false:=rfl
@[simp] theorem Aus (x : AV) : (AV.rm x).one=false:=rfl
@[simp] theorem Atg (x : AV) : (AV.nn x).cells = [AV.nn x]:=rfl
@[simp] theorem Atf (x : AV) : (AV.rm x).cells = [AV.rm x]:=rfl
@[simp] theorem Ate (l : List AV) : (Aah.cells l).cs? = some l:=rfl
@[simp] theorem AuX (l : List AV) : (Aah.grow l).cs? = some l:=rfl
@[simp] theorem ArJ (l m : List AV) : (Aah.cells l).with m = .cells m:=rfl
@[simp] theorem Aro (l m : List AV) : (Aah.grow l).with m = .grow m:=rfl
@[simp] theorem At7 (k : IntKind) (m : Int) : (AV.int k m).okc=true:=rfl
@[simp] theorem At2 (b : ByteArray) : (AV.str b).okc=true:=rfl
@[simp] theorem AtR (b : Bool) : (AV.bool b).okc=true:=rfl
@[simp] theorem At8 (l : List AV) : (AV.agg l).okc=true:=rfl
@[simp] theorem At6 (a b : Bool) (l : List AV) : (AV.lst a b l).okc=true:=rfl
@[simp] theorem AtQ (l : List AV) : (AV.cptr l).okc=true:=rfl
@[simp] theorem At4 (i j : Nat) : (AV.ptr i j).okc=true:=rfl
@[simp] theorem At3 (i j e l : Nat) (f : Bool) : (AV.slc i j e l f).okc=true:=rfl
@[simp] theorem Auv (i : Nat) (l : List AV) : (AV.fn i l).okc=true:=rfl
@[simp] theorem ArT : AV.nilptr.okc=true:=rfl
@[simp] theorem At5 (i : Nat) : (AV.map i).okc=true:=rfl
@[simp] theorem ArU : AV.nilmap.okc=true:=rfl
@[simp] theorem Asg : AaO [] = []:=rfl
@[simp] theorem Ad6 (x : AV) (l : List AV) : AaO (x::l)=x.cells++AaO l:=rfl
@[simp] theorem Aeh (l m : List AV) : AaO (l++m)=AaO l++AaO m:=AfN l m
@[simp] theorem Amo {α : Type} (k : IntKind) (f : α→Int) (l : List α) : AaO (l.map fun x => .int k (f x))=l.map fun x => .int k (f x):=by
 induction l with
 | nil=>rfl
 | cons x l ih=>simp [ih]
@[simp] theorem Amg {α : Type} (k : IntKind) (f : α→Int) (S : Nat→Prop) (l : List α) : Abc S (l.map fun x => .int k (f x))↔True:=by
 induction l with
 | nil=>simp
 | cons x l ih=>simp [ih]
@[simp] theorem AqY (k : IntKind) (S : Nat→Prop) (l : List Int) : Abc S (l.map (.int k))↔True:=Amg k id S l
@[simp] theorem Alk (k : IntKind) (l : List Int) : AaO (l.map (.int k))=l.map (.int k):=Amo k id l
@[simp] theorem AqU (k : IntKind) (l : List Int) : okEls 1 (l.map (.int k))↔True:=iff_true_intro (Amd (f:=id))
@[simp] theorem Atr (x y : AV) : AkI true x y=x:=rfl
@[simp] theorem Ats (x y : AV) : AkI false x y=y:=rfl
@[simp] theorem ArP (b x y : Bool) : AkI b (.bool x) (.bool y) = .bool (if b then x else y):=by cases b <;> rfl
attribute [simp ↓] Arr
attribute [simp] AV.fits Agd Ak5 Aiu AcJ Ao7 Au5 Aeu AoZ As7 AdW AiK aun AhL Afp AeI Afv
theorem Atm (k : IntKind) {n : Int} (h1 : k.min≤n) (h2 : n≤k.max) : k.wrap n=n:=by
 cases k <;> simp [IntKind.wrap,IntKind.min,IntKind.max,IntKind.bits,IntKind.signed] at * <;> omega
theorem Apa {n : Int} (h1 : -9223372036854775808≤n) (h2 : n≤9223372036854775807) : IntKind.i64.wrap n=n:=Atm .i64 (by simpa [IntKind.min,IntKind.bits,IntKind.signed] using h1) (by simpa [IntKind.max,IntKind.bits,IntKind.signed] using h2)
end Go.Abs
