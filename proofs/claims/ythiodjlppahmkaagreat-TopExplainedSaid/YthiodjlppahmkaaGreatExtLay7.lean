import Derived.Test.YthiodjlppahmkaaGreatExtLay6
set_option linter.unusedVariables false
set_option linter.unusedSimpArgs false
namespace Go.Abs
open Go.RowKit (Below)
def bytes (l : List UInt8) : List AV:=l.map fun b => .int .u8 b.toNat
def AdM (l : List UInt8) : List Value:=l.map fun b => .int .u8 b.toNat
theorem AhI (c : Cx) : ∀ l,AaD c (bytes l) (AdM l)
 | []=>by simp [bytes,AdM,AaD]
 | b::l=>by
  have:=AhI c l
  simp only [bytes,AdM,List.map_cons,AaD] at this ⊢
  exact ⟨_,_,rfl,by simp only [Rep]; exact ⟨trivial,Asd b⟩,this⟩
theorem AnR (l : List UInt8) : sized 1 (bytes l):=by
 intro x hx
 simp only [bytes,List.mem_map] at hx
 obtain ⟨b,_,rfl⟩:=hx
 exact ⟨rfl,rfl⟩
theorem AmI : ∀ {vs : List Value},(∀ v ∈ vs,v.oneCell'=true)→Ad5 vs=vs
 | [],_=>rfl
 | v::vs,h=>by
  have ih:=AmI (vs:=vs) (fun u hu=>h u (by simp [hu]))
  simp only [Ad5,List.flatMap_cons] at ih ⊢
  rw [ih,Ac8 (h v (by simp))]; rfl
theorem Aj7 (l : List UInt8) : ∀ v ∈ AdM l,v.oneCell'=true:=by
 intro v hv
 simp only [AdM,List.mem_map] at hv
 obtain ⟨b,_,rfl⟩:=hv
 rfl
def Afc (H : Aac) : AV→Option (List AV×List Nat)
 | .lst _ _ ys=>some (ys,[])
 | .str b=>some (bytes b.data.toList,[])
 | .slc id off 1 len _=>match H id with
  | some o=>match o.cs? with
   | some cs=>if off+len≤cs.length then some ((cs.drop off).take len,[id]) else none
   | none=>none
  | none=>none
 | _=>none
structure AwC (P : Program) (w : World) (c : Cx) (es : Nat) (ys : List AV) (v : Value) : Prop where
 len : ∀ w',w'.heap=w.heap→(Builtin.lenOf v).run P w' = .ok ys.length w'
 cells : ∃ arr : Array Value,(∀ w',w'.heap=w.heap→(Builtin.firstCells es ys.length v).run P w' = .ok arr w')∧AaD c (AaI ys) arr.toList∧(∀ u ∈ arr.toList,u.oneCell'=true)∧arr.size=ys.length*es
theorem Ary {es : Nat} {c : Cx} {xs : List AV} {vs : List Value} (hs : sized es xs) (hr : AaD c xs vs) (h1 : ∀ x ∈ AaI xs,x.one=true) : ∀ u ∈ Ad5 vs,u.oneCell'=true :=
 (AfG hs hr).oneCell (by simpa using h1)
theorem AdD {P : Program} {w : World} {c : Cx} {H : Aac} (hr : AcX c H w) {X : AV} {v : Value} (hX : Rep c X v) {ys : List AV} {T : List Nat} {es : Nat} (h : Afc H X=some (ys,T)) (hs : sized es ys)
 (h1 : ∀ x ∈ AaI ys,x.one=true) (hon : (∃ id off e len f,X = .slc id off e len f)→∀ x ∈ ys,x.one=true) : AwC P w c es ys v:=by
 have hh:=hr.heap
 unfold Afc at h
 split at h
 ·rename_i nl fl ys'
  simp only [Option.some.injEq,Prod.mk.injEq] at h
  obtain ⟨rfl,_⟩:=h
  obtain ⟨a,cap,hv,c1,c2,c3,c4,c5⟩:=Aek hX
  refine ⟨fun w' _=>by simp [hv,Builtin.lenOf],?_⟩
  cases a with
  | none =>
   obtain ⟨rfl,rfl⟩:=c4 rfl
   refine ⟨#[],fun w' _=>by simp [hv,Builtin.firstCells],by simp [AaI,AaD],by simp,by simp⟩
  | some a' =>
   obtain ⟨_,b,off,es',vs,cz0,cE,cR⟩:=c5 a' rfl
   have hvs:=Ae0 hs cR
   have hl:=cR.length
   by_cases hc0 : cap=0
   ·have : ys' = []:=List.length_eq_zero_iff.1 (by omega)
    subst this
    refine ⟨#[],fun w' _=>by subst hv; simp [Builtin.firstCells,loadCells,loadCellsFrom],by simp [AaI,AaD],by simp,by simp⟩
   obtain ⟨q1,cz⟩:=cz0 (by omega)
   cases q1
   have hcells : Aaw w.heap b off (Ad5 vs):=by
    cases vs with
    | nil=>intro i hi; simp [Ad5] at hi
    | cons u vs =>
     have hes : es'=es:=by
      have h3:=(cE 0 (by simp)).1
      have h4:=hvs u (by simp)
      simp only [List.getElem_cons_zero] at h3; omega
     subst hes
     rw [← hh]; exact (Ab5 hvs).1 cE
   have hfl:=Afq hvs
   refine ⟨(Ad5 vs).toArray,fun w' hw'=>?_,by simpa using AfG hs cR,by simpa using Ary hs cR h1,by simp [hfl,hl]⟩
   have:=Ac3 (P:=P) (w:=w') (by rw [hw']; exact hcells)
   rw [hv]
   simp only [Builtin.firstCells]
   rw [hfl,hl] at this; exact this
 ·rename_i b
  simp only [Option.some.injEq,Prod.mk.injEq] at h
  obtain ⟨rfl,_⟩:=h
  simp only [Rep] at hX
  have hlen : (bytes b.data.toList).length=b.size:=by simp [bytes]
  refine ⟨fun w' _=>by simp [hX.1,Builtin.lenOf,hlen],?_⟩
  have hfr : AaI (bytes b.data.toList)=bytes b.data.toList:=by
   have : ∀ l : List UInt8,AaI (bytes l)=bytes l:=by
    intro l
    induction l with
    | nil=>rfl
    | cons x l ih=>simp only [AaI,bytes,List.map_cons,List.flatMap_cons,AV.cells] at ih ⊢; rw [ih]; rfl
   exact this _
  have hes : bytes b.data.toList≠[]→es=1:=by
   intro hne
   cases hb : b.data.toList with
   | nil=>rw [hb] at hne; simp [bytes] at hne
   | cons x l =>
    have:=(hs (.int .u8 x.toNat) (by rw [hb]; simp [bytes])).2
    simpa [AV.cells] using this.symm
  refine ⟨(AdM b.data.toList).toArray,fun w' _=>?_,by rw [hfr]; simpa using AhI c _,by simpa using Aj7 _,?_⟩
  ·rw [hX.1,hlen]
   simp only [Builtin.firstCells,Sem.run_pure,Result.ok.injEq,and_true]
   have : (b.extract 0 b.size).data=b.data:=by
    have : b.extract 0 b.size=b:=by simp
    rw [this]
   rw [this]
   apply Array.ext'
   simp [AdM]
  ·rw [hlen]
   simp only [AdM,List.size_toArray,List.length_map,Array.length_toList]
   by_cases hne : bytes b.data.toList = []
   ·have : b.data.toList = []:=by simpa [bytes] using hne
    have h0 : b.data.size=0:=by rw [← Array.length_toList,this]; rfl
    have h0' : b.size=0:=h0
    rw [h0,h0']; simp
   ·rw [hes hne,Nat.mul_one]; rfl
 ·rename_i id off len full
  split at h
  ·rename_i o ho
   split at h
   ·rename_i cs hcs
    split at h
    ·rename_i hle
     simp only [Option.some.injEq,Prod.mk.injEq] at h
     obtain ⟨rfl,_⟩:=h
     have hyl : ((cs.drop off).take len).length=len:=by simp; omega
     by_cases hg : c.ι id = .emp
     ·simp only [Rep] at hX
      obtain ⟨rfl,a,rfl⟩:=hX.2.2.1 hg
      refine ⟨fun w' _=>by simp [Builtin.lenOf],#[],fun w' _=>by cases a <;> simp [Builtin.firstCells,loadCells,loadCellsFrom],by simp [AaI,AaD],by simp,by simp⟩
     ·have hlive : ∃ b x y,c.ι id = .live b x y∧AbQ c o b x y:=by
       refine hr.live_of ho ?_
       intro e
       by_cases hl : ∀ b base sz,c.ι id ≠ .live b base sz
       ·rw [hr.non id hl hg] at ho; cases ho
       ·simp only [ne_eq,Classical.not_forall,Classical.not_not] at hl
        obtain ⟨b,x,y,hl⟩:=hl
        obtain ⟨o',ho',hr'⟩:=hr.obj id b x y hl
        rw [ho] at ho'; cases ho'; subst e
        exact hr'.1 rfl
      obtain ⟨b,base,sz,hl,hor⟩:=hlive
      obtain ⟨cap,o',hv,ho',d1,d2,d3,_⟩:=Abd hX hl
      refine ⟨fun w' _=>by rw [hyl]; simp [hv,Builtin.lenOf],?_⟩
      obtain ⟨cur,T',fr,vs,e1,e2,e3,e4,e5,e6⟩:=hor.cs hcs
      have hrv:=(e5.drop off).take len
      have hvs:=Ae0 hs hrv
      have hvl:=hrv.length
      have hones:=hon ⟨_,_,_,_,_,rfl⟩
      have h1' : ∀ u ∈ (vs.drop off).take len,u.oneCell'=true:=hrv.oneCell (List.all_eq_true.2 hones)
      have hfa : AaI ((cs.drop off).take len)=(cs.drop off).take len:=by
       have : ∀ l : List AV,(∀ x ∈ l,x.one=true)→AaI l=l:=by
        intro l
        induction l with
        | nil=>intro _; rfl
        | cons x l ih =>
         intro h
         have hx:=h x (by simp)
         have hc : x.cells = [x]:=by cases x <;> first | rfl | simp [AV.one] at hx
         simp only [AaI,List.flatMap_cons] at ih ⊢
         rw [ih fun y hy=>h y (by simp [hy]),hc]; rfl
       exact this _ hones
      refine ⟨((vs.drop off).take len).toArray,fun w' hw'=>?_,by rw [hfa]; exact hrv,h1',?_⟩
      ·rw [hyl,hv]
       simp only [Builtin.firstCells]
       by_cases hlen : len=0
       ·subst hlen; simp [loadCells,loadCellsFrom]
       ·have hoff : o'=base+off:=ho' (by omega)
        have hes : es=1:=by
         have hne : 0<((cs.drop off).take len).length:=by omega
         have h3:=hs _ (List.getElem_mem hne)
         have h4:=hones _ (List.getElem_mem hne)
         have hc : (((cs.drop off).take len)[0]).cells = [((cs.drop off).take len)[0]]:=by
          generalize ((cs.drop off).take len)[0]=x at h4
          cases x <;> first | rfl | simp [AV.one] at h4
         rw [hc] at h3; simpa using h3.2.symm
        subst hes; subst hoff
        have:=Ac3 (P:=P) (w:=w') (b:=b) (off:=base+off) (vs:=(vs.drop off).take len) (by rw [hw',← hh]; exact (e6.drop off).take len)
        rw [hvl,hyl] at this
        simpa using this
      ·rw [hyl]
       by_cases hlen : len=0
       ·subst hlen; simp
       ·have hes : es=1:=by
         have hne : 0<((cs.drop off).take len).length:=by omega
         have h3:=hs _ (List.getElem_mem hne)
         have h4:=hones _ (List.getElem_mem hne)
         have hc : (((cs.drop off).take len)[0]).cells = [((cs.drop off).take len)[0]]:=by
          generalize ((cs.drop off).take len)[0]=x at h4
          cases x <;> first | rfl | simp [AV.one] at h4
         rw [hc] at h3; simpa using h3.2.symm
        simp only [List.size_toArray,hvl,hyl,hes,Nat.mul_one]
    ·cases h
   ·cases h
  ·cases h
 ·cases h
def AcP (P : Program) (t : TypeId) : Bool :=
 match P.underlying t with
 | some (.slice _)=>true
 | some .string=>true
 | _=>false
theorem AiX {P : Program} {t : TypeId} (h : AcP P t=true) : (∃ e,P.underlying t=some (.slice e))∨P.underlying t=some .string:=by
 unfold AcP at h
 split at h
 ·rename_i e hu; exact .inl ⟨e,hu⟩
 ·rename_i hu; exact .inr hu
 ·cases h
theorem Ae2 {P : Program} {w : World} {st xt ty e : TypeId} {i : TypeInfo} {z : Value} (hS : P.underlying st=some (.slice e)) (hX : AcP P xt=true) (hi : P.info? e=some i) (hz : i.zero=some z)
 (base : Option Addr) (sLen sCap n : Nat) (x : Value) (new old : Array Value) (hlen : ∀ w',w'.heap=w.heap→(Builtin.lenOf x).run P w' = .ok n w')
 (hnew : ∀ w',w'.heap=w.heap→(Builtin.firstCells i.size n x).run P w' = .ok new w') (hold : ∀ w',w'.heap=w.heap→(Builtin.firstCells i.size sLen (.slice base sLen sCap)).run P w' = .ok old w')
 (hgt : sCap<sLen+n) (hm : sLen+n≤maxLen) (hb : (sLen+n)*i.bytes≤140737488355328) :
 (Builtin.append_ #[st,xt] ty #[.slice base sLen sCap,x]).run P w =
  .ok (.slice (some ⟨w.heap.size,0,none⟩) (sLen+n) (grownCap w (sLen+n) sCap e)) (w.drew.alloc (.cells (old++new++Builtin.zeroCells z.cells (grownCap w (sLen+n) sCap e-(sLen+n))) e)):=by
 have hfit:=growslice_fits hgt hb
 have hfit' : ¬ (281474976710656<Builtin.nextslicecap (sLen+n) sCap*i.bytes):=by omega
 have hmax : ¬ ((9223372036854775807 : Int)<(sLen : Int)+(n : Int)):=by unfold maxLen at hm; omega
 have hle : ¬ (sLen+n≤sCap):=by omega
 have o1:=hold w.drew rfl
 have n1:=hnew w.drew rfl
 have l1:=hlen w rfl
 rcases AiX hX with ⟨e2,hd⟩ | hd
 all_goals
  simp [Builtin.append_,run_underlying hS,run_underlying hd,sizeOf,typeInfo,hi,l1,hle,IntKind.max,IntKind.signed,IntKind.bits,hmax,hfit',Question.forced,zeroValue,hz,o1,n1,newRow,grownCap]
theorem AcS {P : Program} {w w' : World} {st xt ty e : TypeId} {i : TypeInfo} (hS : P.underlying st=some (.slice e)) (hX : AcP P xt=true) (hi : P.info? e=some i)
 (base : Option Addr) (sLen sCap n : Nat) (x : Value) (new : Array Value) (hlen : (Builtin.lenOf x).run P w = .ok n w) (hnew : (Builtin.firstCells i.size n x).run P w = .ok new w) (hle : sLen+n≤sCap)
 (hst : (match base with | some a=>storeCells (a.add (sLen*i.size)) new.toList | none=>pure ()).run P w = .ok () w') :
 (Builtin.append_ #[st,xt] ty #[.slice base sLen sCap,x]).run P w = .ok (.slice base (sLen+n) sCap) w':=by
 rcases AiX hX with ⟨e2,hd⟩ | hd
 all_goals
  cases base with
  | none =>
   simp only [Sem.run_pure,Result.ok.injEq,true_and] at hst; subst hst
   simp [Builtin.append_,run_underlying hS,run_underlying hd,sizeOf,typeInfo,hi,hlen,hle,hnew]
  | some a =>
   simp only at hst
   simp [Builtin.append_,run_underlying hS,run_underlying hd,sizeOf,typeInfo,hi,hlen,hle,hnew,hst]
theorem Ajg {c : Cx} {es : Nat} : ∀ {ys : List AV} {L : List Value},sized es ys→AaD c (AaI ys) L→(∀ u ∈ L,u.oneCell'=true)→∃ us,AaD c ys us∧Ad5 us=L∧∀ u ∈ us,u.cells.size=es
 | [],L,_,h,_=>by
  simp only [AaI,List.flatMap_nil,AaD] at h; subst h
  exact ⟨[],by simp [AaD],rfl,by simp⟩
 | y::ys,L,hs,h,h1=>by
  simp only [AaI,List.flatMap_cons] at h
  obtain ⟨A,B,rfl,hA,hB⟩:=h.split
  obtain ⟨us,k1,k2,k3⟩:=Ajg (fun x hx=>hs x (by simp [hx])) hB (fun u hu=>h1 u (by simp [hu]))
  obtain ⟨g1,g2⟩:=hs y (by simp)
  have hAl:=hA.length
  simp only [AV.okc,Bool.or_eq_true] at g1
  rcases g1 with g1 | g1
  ·have hc : y.cells = [y]:=by cases y <;> first | rfl | simp [AV.one] at g1
   rw [hc] at hA g2
   simp only [AaD] at hA
   obtain ⟨v,r,rfl,hv,rfl⟩:=hA
   have hv1:=Ac8 (h1 v (by simp))
   refine ⟨v::us,by simp only [AaD]; exact ⟨v,us,rfl,hv,k1⟩,by simp only [Ad5,List.flatMap_cons] at k2 ⊢; rw [k2,hv1],?_⟩
   intro u hu
   rcases List.mem_cons.1 hu with rfl | hu
   ·rw [hv1]; simpa using g2
   ·exact k3 u hu
  ·cases y <;> simp at g1
   rename_i cs
   refine ⟨.agg A.toArray::us,?_,?_,?_⟩
   ·simp only [AaD]
    refine ⟨_,us,rfl,?_,k1⟩
    simp only [Rep]
    exact ⟨_,rfl,by simpa [AV.cells] using hA⟩
   ·simp only [Ad5,List.flatMap_cons] at k2 ⊢
    rw [k2]; rfl
   ·intro u hu
    rcases List.mem_cons.1 hu with rfl | hu
    ·simp only [Value.cells,List.size_toArray]; omega
    ·exact k3 u hu
theorem Afr (xs ys : List AV) : AaI (xs++ys)=AaI xs++AaI ys:=by simp [AaI]
theorem Ace (z : Array Value) (n : Nat) : (Builtin.zeroCells z n).size=n*z.size:=by simp [Builtin.zeroCells]
theorem Aj8 {α : Type} {p : α→Prop} {xs ys : List α} (h : ∀ x ∈ xs,p x) (k : ∀ x ∈ ys,p x) : ∀ x ∈ xs++ys,p x:=by
 intro x hx
 rcases List.mem_append.1 hx with hx | hx
 ·exact h x hx
 ·exact k x hx
theorem AdY {L : List Value} {arr : Array Value} {T : TypeId} {fr : Nat×Nat} {h : Array Obj} {b : Nat} (hb : h[b]? = some (.cells arr T fr)) (hp : ∃ r,arr.toList=L++r) : Aaw h b 0 L:=by
 obtain ⟨r,hr⟩:=hp
 intro i hi
 simp only [Aa6,hb,Nat.zero_add]
 rw [← Array.getElem?_toList,hr,List.getElem?_append_left hi,List.getElem?_eq_getElem hi]
theorem Ab8 {H : Aac} {X : AV} {ys : List AV} {T : List Nat} (h : Afc H X=some (ys,T)) {H1 : Aac} (hT : ∀ id ∈ T,H1 id=H id) : Afc H1 X=some (ys,T):=by
 unfold Afc at h ⊢
 split at h
 ·exact h
 ·exact h
 ·rename_i id off len full
  split at h
  ·rename_i o ho
   split at h
   ·rename_i cs hcs
    split at h
    ·rename_i hle
     have hT' : T = [id]:=by simp only [Option.some.injEq,Prod.mk.injEq] at h; exact h.2.symm
     subst hT'
     simp only [hT id (by simp),ho,hcs,hle,if_true]
     exact h
    ·cases h
   ·cases h
  ·cases h
 ·cases h
structure AnU (H : Aac) (N es : Nat) (X : AV) (ys : List AV) (T : List Nat) : Prop where
 src : Afc H X=some (ys,T)
 sized : sized es ys
 one : ∀ x ∈ AaI ys,x.one=true
 slc : (∃ id off e len f,X = .slc id off e len f)→∀ x ∈ ys,x.one=true
 below : ∀ id ∈ T,id<N
theorem Alr {P : Program} {o : Oper} {s : Nat→AV} {H : Aac} {N : Nat} (hc : AaY o=true) (t t' : TypeId) (y z : Operand) (ho : o.op = .call { callee := .builtin .append,args := #[y,z],argTypes := #[t,t'] })
 (nl fl : Bool) (xs : List AV) (hy : ev s y = .lst nl fl xs) (hfl : fl=true∨nl=true) (e es by_ : Nat) (hE : Aap P t=some (e,es,by_)) (hX : AcP P t'=true) (ys : List AV) (T : List Nat) (hs : AnU H N es (ev s z) ys T)
 (hsx : sized es xs) (h1x : ∀ x ∈ AaI xs,x.one=true) (hm : xs.length+ys.length≤maxLen) (hb : (xs.length+ys.length)*by_≤140737488355328) :
 Aao P o s H N (.lst (nl&&ys.isEmpty) false (xs++ys)) H N T []:=by
 obtain ⟨i,hu,hi,hsz,hby,z0,hz0,hzs⟩:=Aa9 hE
 by_cases hn : ys = []
 ·subst hn
  refine Aao.read T hs.below fun n c s1 H1 a w hrel hu' hT=>?_
  have r1:=Aaj hrel hu' hc (x:=y) (by simp [ho,Op.operands,Call.operands])
  have r2:=Aaj hrel hu' hc (x:=z) (by simp [ho,Op.operands,Call.operands])
  rw [hy] at r1
  have S:=AdD (P:=P) hrel.hr r2 (Ab8 hs.src hT) hs.sized hs.one hs.slc
  obtain ⟨arr,a1,a2,a3,a4⟩:=S.cells
  obtain ⟨ad,cap,hv,c1,c2,c3,c4,c5⟩:=Aek r1
  have harr : arr = #[]:=Array.size_eq_zero_iff.1 (by rw [a4]; simp)
  subst harr
  refine ⟨.slice ad xs.length cap,?_,?_⟩
  ·have:=AcS (P:=P) (w:=w) (w':=w) (ty:=o.type) hu hX hi ad xs.length cap 0 (a.eval z) #[] (by simpa using S.len w rfl) (by rw [hsz]; simpa using a1 w rfl) (by omega) (by cases ad <;> simp [storeCells])
   simp [execOp,ho,resolve,invoke,builtin,hv,this]
  ·rw [← hv]
   simp only [List.isEmpty_nil,Bool.and_true,List.append_nil]
   simp only [Rep] at r1 ⊢
   rcases r1 with r1 | ⟨r0,a',b,off,cap',es',vs,r1,r2',r3,r4,r5⟩
   ·exact .inl r1
   ·exact .inr ⟨r0,a',b,off,cap',es',vs,r1,r2',r3,by simp,r5⟩
 ·have hpos : 0<ys.length:=by cases ys with
   | nil=>exact absurd rfl hn
   | cons _ _=>simp
  have hise : ys.isEmpty=false:=by cases ys <;> simp_all
  rw [hise,Bool.and_false]
  refine Aao.newZ T hs.below fun n c s1 H1 a w hrel hu' hT=>?_
  have r1:=Aaj hrel hu' hc (x:=y) (by simp [ho,Op.operands,Call.operands])
  have r2:=Aaj hrel hu' hc (x:=z) (by simp [ho,Op.operands,Call.operands])
  rw [hy] at r1
  have S:=AdD (P:=P) hrel.hr r2 (Ab8 hs.src hT) hs.sized hs.one hs.slc
  have B:=AdD (P:=P) (H:=H1) hrel.hr r1 rfl hsx h1x (by rintro ⟨_,_,_,_,_,h⟩; cases h)
  obtain ⟨ad,cap,hv,c1,c2,c3,c4,c5⟩:=Aek r1
  have hcap:=c3 hfl
  subst hcap
  obtain ⟨new,n1,n2,n3,n4⟩:=S.cells
  obtain ⟨old,o1,o2,o3,o4⟩:=B.cells
  rw [hv] at o1
  have hrun:=Ae2 (P:=P) (w:=w) (ty:=o.type) hu hX hi hz0 ad xs.length xs.length ys.length (a.eval z) new old S.len (by rw [hsz]; exact n1) (by rw [hsz]; exact o1) (by omega) hm (by rw [hby]; exact hb)
  have hge:=grownCap_ge w (xs.length+ys.length) xs.length e
  have hle:=grownCap_le_maxLen w (xs.length+ys.length) xs.length e hm
  generalize grownCap w (xs.length+ys.length) xs.length e=cap at hrun hge hle
  refine ⟨.slice (some ⟨w.heap.size,0,none⟩) (xs.length+ys.length) cap,_,w.drew.alloc (.cells (old++new++Builtin.zeroCells z0.cells (cap-(xs.length+ys.length))) e),by simp only [execOp,ho,resolve,invoke,builtin,List.map_toArray,List.map_cons,List.map_nil,hv,Sem.run_bind,Sem.run_pure,Result.andThen_ok,hrun],rfl,rfl,rfl,rfl,fun L=>?_⟩
  have hR : AaD c (AaI (xs++ys)) (old.toList++new.toList):=by rw [Afr]; exact o2.append n2
  obtain ⟨us,u1,u2,u3⟩:=Ajg (Aj8 hsx hs.sized) hR (Aj8 o3 n3)
  have hul:=u1.length
  simp only [List.length_append] at hul
  simp only [Rep]
  right
  refine ⟨trivial,⟨w.heap.size,0,none⟩,w.heap.size,0,cap,es,us,by rw [hul],by omega,hle,by simp,fun _=>⟨rfl,.inr rfl⟩,?_,u1.mono L⟩
  rw [Ab5 u3,u2]
  exact AdY (by simp only [Array.getElem?_push_size]; rfl) ⟨(Builtin.zeroCells z0.cells (cap-(xs.length+ys.length))).toList,by rw [Array.toList_append,Array.toList_append]⟩
theorem AcX.renameEmp {c : Cx} {H : Aac} {w : World} (h : AcX c H w) {id id' : Nat} (hl : c.ι id = .emp) (hu : c.ι id' = .unused) :
 AcX ⟨c.Z,upd (upd c.ι id .dead) id' .emp,c.h⟩ (upd (upd H id none) id' (some (.grow []))) w∧Aeu c w ⟨c.Z,upd (upd c.ι id .dead) id' .emp,c.h⟩ w:=by
 have hne : id≠id':=fun e=>by rw [e,hu] at hl; cases hl
 have lv : ∀ i b' y z,upd (upd c.ι id .dead) id' .emp i = .live b' y z→i≠id'∧i≠id∧c.ι i = .live b' y z:=by
  intro i b' y z h1
  simp only [upd] at h1
  split at h1
  ·cases h1
  ·split at h1
   ·cases h1
   ·exact ⟨by assumption,by assumption,h1⟩
 have L : c.Le ⟨c.Z,upd (upd c.ι id .dead) id' .emp,c.h⟩:=by
  refine ⟨fun _ h=>h,fun _ _ _ _ hv=>hv,fun i hi=>?_,fun i b' y z hi h1=>(lv i b' y z h1).2.2,fun i hi h1=>?_⟩
  ·simp only [upd]; split
   ·simp
   ·split <;> simp_all
  ·simp only [upd] at h1
   split at h1
   ·subst i; exact absurd hu hi
   ·split at h1
    ·cases h1
    ·exact h1
 refine ⟨⟨h.heap,?_,?_,?_,?_,?_,h.zlt,?_⟩,⟨L,fun b hb => .inl hb,fun i b y z h1 => .inr ⟨i,y,z,(lv i b y z h1).2.2⟩,fun _ _ _=>rfl,Nat.le_refl _,rfl,rfl,rfl⟩⟩
 ·intro i b' y z h1
  obtain ⟨h3,h4,h5⟩:=lv i b' y z h1
  obtain ⟨o',h6,h7⟩:=h.obj i b' y z h5
  exact ⟨o',by simp [upd,h3,h4,h6],h7.mono L rfl⟩
 ·intro i hi
  by_cases e : i=id'
  ·subst e; simp
  ·by_cases e2 : i=id
   ·subst e2; simp [upd,e] at hi
   ·simp only [upd,e,e2,if_false] at hi ⊢; exact h.emp i hi
 ·intro i hi hm
  by_cases e : i=id'
  ·subst e; simp at hm
  ·by_cases e2 : i=id
   ·subst e2; simp [upd,e]
   ·simp only [upd,e,e2,if_false] at hi hm ⊢; exact h.non i hi hm
 ·intro i j b' y z y' z' h1 h2
  exact h.inj i j b' y z y' z' (lv _ _ _ _ h1).2.2 (lv _ _ _ _ h2).2.2
 ·intro i b' y z h1 h2
  exact h.sep i b' y z (lv _ _ _ _ h1).2.2 h2
 ·obtain ⟨B,hB⟩:=h.fin
  refine ⟨max B (max (id+1) (id'+1)),fun i hi=>?_⟩
  have e : i≠id:=by omega
  have e' : i≠id':=by omega
  simp only [upd,e,e',if_false]
  exact hB i (by omega)
theorem AdX {c : Cx} {H : Aac} {w : World} (h : AcX c H w) {id : Nat} {o : AaZ} (ho : H id=some o) : (c.ι id = .emp∧o = .grow [])∨∃ b x y,c.ι id = .live b x y∧AbQ c o b x y:=by
 by_cases hg : c.ι id = .emp
 ·have:=h.emp id hg; rw [ho] at this; cases this; exact .inl ⟨hg,rfl⟩
 ·by_cases hl : ∀ b base sz,c.ι id ≠ .live b base sz
  ·rw [h.non id hl hg] at ho; cases ho
  ·simp only [ne_eq,Classical.not_forall,Classical.not_not] at hl
   obtain ⟨b,x,y,hl⟩:=hl
   obtain ⟨o',ho',hr⟩:=h.obj id b x y hl
   rw [ho] at ho'; cases ho'
   exact .inr ⟨b,x,y,hl,hr⟩
theorem Adn {c c' : Cx} {o : AaZ} {cs cs' : List AV} (ho : o.cs? = some cs) {b sz : Nat} {arr : Array Value} {T : TypeId} {L : List Value} (hne : (∃ x,o = .grow x)→cs'≠[]) (hb : c'.h[b]? = some (.cells arr T (0,0))) (hsz : arr.size=sz)
 (hr : AaD c' cs' L) (hp : ∃ r,arr.toList=L++r) : AbQ c' (o.with cs') b 0 sz:=by
 have hl:=hr.length
 have key : ∃ cur T fr vs,c'.h[b]? = some (.cells cur T fr)∧cur.size=sz∧Ahn sz fr∧0+cs'.length≤sz∧AaD c' cs' vs∧Aaw c'.h b 0 vs:=by
  refine ⟨arr,T,(0,0),L,hb,hsz,AkC _,?_,hr,AdY hb hp⟩
  obtain ⟨r,hr'⟩:=hp
  have : arr.size=L.length+r.length:=by rw [← Array.length_toList,hr',List.length_append]
  omega
 cases o with
 | cells _=>exact key
 | grow x=>exact ⟨hne ⟨x,rfl⟩,key⟩
 | mp _=>cases ho
 | it _ _=>cases ho
theorem Alp {P : Program} {o : Oper} {s : Nat→AV} {H : Aac} {N : Nat} (hc : AaY o=true) (t t' : TypeId) (y z : Operand) (ho : o.op = .call { callee := .builtin .append,args := #[y,z],argTypes := #[t,t'] })
 (id off es len : Nat) (full : Bool) (hy : ev s y = .slc id off es len full) (hid : id<N) (obj : AaZ) (hob : H id=some obj) (cs : List AV) (hcs : obj.cs? = some cs) (hend : off+len*es=cs.length)
 (hk : off=0∨∃ x,obj = .cells x)
 (e by_ : Nat) (hE : Aap P t=some (e,es,by_)) (hX : AcP P t'=true) (ys : List AV) (T : List Nat) (hs : AnU H N es (ev s z) ys T)
 (h1x : ∀ x ∈ cs,x.one=true) (hes : 0<es) (hm : len+ys.length≤maxLen) (hb : (len+ys.length)*by_≤140737488355328) :
 Aao P o s H N (.slc N 0 es (len+ys.length) false) (upd (upd H id none) N (some (obj.with (cs.drop off++AaI ys)))) (N+1) (id::T) [id,N]:=by
 obtain ⟨i,hu,hi,hsz,hby,z0,hz0,hzs⟩:=Aa9 hE
 have hNid : N≠id:=by omega
 refine ⟨?_,?_,by omega,?_,?_⟩
 ·intro n c s1 H1 a w hrel hu' hT hW K Q hk'
  have hunN : c.ι N = .unused:=hW N (by simp) (by
   intro h
   rcases List.mem_cons.1 h with h | h
   ·omega
   ·have:=hs.below N h; omega)
  have r1:=Aaj hrel hu' hc (x:=y) (by simp [ho,Op.operands,Call.operands])
  have r2:=Aaj hrel hu' hc (x:=z) (by simp [ho,Op.operands,Call.operands])
  rw [hy] at r1
  have hH1 : H1 id=some obj:=(hT id (by simp)).trans hob
  have S:=AdD (P:=P) hrel.hr r2 (Ab8 hs.src (fun j hj=>hT j (by simp [hj]))) hs.sized hs.one hs.slc
  obtain ⟨new,n1,n2,n3,n4⟩:=S.cells
  have fin : ∀ (c' : Cx) (H' : Aac) (v : Value) (w' : World),(execOp a.eval o).run P w = .ok (.value v) w'→AcX c' H' w'→H'=upd (upd H1 id none) N (some (obj.with (cs.drop off++AaI ys)))→Rep c' (.slc N 0 es (len+ys.length) false) v→Aeu c w c' w' →
   (∀ j,c.ι j = .unused→j≠N→c'.ι j = .unused)→o.wp P a w K Q:=by
   intro c' H' v w' hrun hr' hH' hx g hun
   unfold Oper.wp
   rw [hrun,Oper.upon_value]
   refine hk' c' v w' (hr'.eqH ?_) hx g (fun j h1 h2=>hun j h1 (by simp at h2; exact h2.2))
   rw [hH']
   funext j
   by_cases h1 : j=N
   ·subst h1; simp
   ·by_cases h2 : j=id
    ·subst h2; simp [upd,h1]
    ·simp [upd,h1,h2]
  rcases AdX hrel.hr hH1 with ⟨hemp,rfl⟩ | ⟨b,base,sz,hl,hor⟩
  ·simp only [AaZ.cs?,Option.some.injEq] at hcs
   subst hcs
   simp only [Rep] at r1
   obtain ⟨rfl,a0,hv⟩:=r1.2.2.1 hemp
   simp only [List.length_nil,Nat.zero_mul,Nat.add_zero] at hend
   subst hend
   by_cases hn : ys = []
   ·subst hn
    have harr : new = #[]:=Array.size_eq_zero_iff.1 (by rw [n4]; simp)
    subst harr
    obtain ⟨hr',g⟩:=hrel.hr.renameEmp hemp hunN
    refine fin _ _ (.slice a0 0 0) w ?_ hr' (by simp [AaZ.with,AaI]) ?_ g ?_
    ·have:=AcS (P:=P) (w:=w) (w':=w) (ty:=o.type) hu hX hi a0 0 0 0 (a.eval z) #[] (by simpa using S.len w rfl) (by rw [hsz]; simpa using n1 w rfl) (by omega) (by cases a0 <;> simp [storeCells])
     simp [execOp,ho,resolve,invoke,builtin,hv,this]
    ·simp only [Rep,AbR]
     exact ⟨by simp,rfl,fun _=>⟨by simp,a0,by simp⟩,fun b base sz h=>by simp at h⟩
    ·intro j h1 h2
     have h3 : j≠id:=by intro e'; subst e'; rw [hemp] at h1; cases h1
     simp only [upd,h2,h3,if_false]; exact h1
   ·have hpos : 0<ys.length:=by cases ys with
     | nil=>exact absurd rfl hn
     | cons _ _=>simp
    have hrun:=Ae2 (P:=P) (w:=w) (ty:=o.type) hu hX hi hz0 a0 0 0 ys.length (a.eval z) new #[] S.len (by rw [hsz]; exact n1) (fun w' _=>by cases a0 <;> simp [Builtin.firstCells,loadCells,loadCellsFrom]) (by omega) hm (by rw [hby]; exact hb)
    have hge:=grownCap_ge w (0+ys.length) 0 e
    have hle:=grownCap_le_maxLen w (0+ys.length) 0 e hm
    generalize grownCap w (0+ys.length) 0 e=cap at hrun hge hle
    obtain ⟨hr1,g1⟩:=hrel.hr.kill (id:=id) (by rw [hemp]; simp)
    have hunN' : (⟨c.Z,upd c.ι id .dead,c.h⟩ : Cx).ι N = .unused:=by simp only [upd,hNid,if_false]; exact hunN
    have hRn : ∀ c',c.Le c'→AaD c' (AaI ys) new.toList:=fun c' L=>n2.mono L
    have hL2 : c.Le ⟨c.Z,upd (upd c.ι id .dead) N (.live w.heap.size 0 (cap*es)),w.heap.push (.cells (#[]++new++Builtin.zeroCells z0.cells (cap-(0+ys.length))) e)⟩:=by
     refine ⟨fun _ h=>h,fun k hk'' j v hv'=>?_,fun j hj=>?_,fun j b' y' z' hj h1=>?_,fun j hj h1=>?_⟩
     ·have:=hrel.hr.zlt k hk''
      rw [AeO this,← hrel.hr.heap]; exact hv'
     ·simp only [upd]; split
      ·simp
      ·split <;> simp_all
     ·simp only [upd] at h1
      split at h1
      ·subst j; exact absurd hunN hj
      ·split at h1
       ·cases h1
       ·exact h1
     ·simp only [upd] at h1
      split at h1
      ·cases h1
      ·split at h1
       ·cases h1
       ·exact h1
    have harrsz : (#[]++new++Builtin.zeroCells z0.cells (cap-(0+ys.length)) : Array Value).size=cap*es:=by
     simp only [Array.size_append,Ace,n4,hzs,Array.size_empty,Nat.zero_add,← Nat.add_mul]
     congr 1; omega
    obtain ⟨hr2,g2⟩:=hr1.alloc (id:=N) hunN' ((AaZ.grow []).with ([]++AaI ys)) (.cells (#[]++new++Builtin.zeroCells z0.cells (cap-(0+ys.length))) e) 0 (cap*es)
     (Adn (c:=c) (o := .grow []) (cs:=[]) rfl (fun _ h0=>by
      have h3:=n2.length
      simp only [List.nil_append] at h0
      rw [h0] at h3
      have h4 : new.size=0:=by simpa using h3
      rw [n4] at h4
      have:=Nat.mul_pos hpos hes
      omega) (by simp only [Array.getElem?_push_size]; rfl) harrsz (by rw [List.nil_append]; exact hRn _ hL2) ⟨(Builtin.zeroCells z0.cells (cap-(0+ys.length))).toList,by simp⟩)
    refine fin _ _ (.slice (some ⟨w.heap.size,0,none⟩) (0+ys.length) cap) (w.drew.alloc (.cells (#[]++new++Builtin.zeroCells z0.cells (cap-(0+ys.length))) e)) ?_ (hr2.world rfl) rfl ?_ ((g1.trans g2).trans (Aeu.world rfl rfl rfl rfl)) ?_
    ·simp only [execOp,ho,resolve,invoke,builtin,List.map_toArray,List.map_cons,List.map_nil,hv,Sem.run_bind,Sem.run_pure,Result.andThen_ok,hrun]
    ·simp only [Rep,AbR]
     refine ⟨by simp,rfl,fun h=>by simp at h,fun b' base' sz' h=>?_⟩
     simp only [Aei.live.injEq] at h
     obtain ⟨rfl,rfl,rfl⟩:=h
     exact ⟨cap,0,rfl,fun _=>rfl,by omega,hle,by omega,by simp⟩
    ·intro j h1 h2
     have h3 : j≠id:=by intro e'; subst e'; rw [hemp] at h1; cases h1
     simp only [upd,h2,h3,if_false]; exact h1
  ·obtain ⟨cap,o',hv,ho',c1,c2,c3,c4⟩:=Abd r1 hl
   obtain ⟨cur,T',fr,vs,e1,e2,e3,e4,e5,e6⟩:=hor.cs hcs
   have hh:=hrel.hr.heap
   have hvl:=e5.length
   have hng : (∃ x,obj = .grow x)→cs.drop off++AaI ys≠[]:=by
    rintro ⟨x,rfl⟩
    simp only [AaZ.cs?,Option.some.injEq] at hcs
    subst hcs
    rcases hk with rfl | ⟨_,h⟩
    ·have:=hor.1
     simp [this]
    ·cases h
   have hunk : ∀ j,c.ι j = .unused→j≠id:=by intro j h1 e'; subst e'; rw [hl] at h1; cases h1
   by_cases hle : len+ys.length≤cap
   ·have hst : ∃ w1,(storeCells ((⟨b,o',none⟩ : Addr).add (len*es)) new.toList).run P w = .ok () w1∧Amf w w1 b cur T' fr (base+cs.length) new.toList:=by
     by_cases hc0 : 0<cap
     ·rw [Afw,ho' hc0]
      have hmul : (len+ys.length)*es≤cap*es:=Nat.mul_le_mul_right _ hle
      rw [Nat.add_mul] at hmul
      have:=Abx (P:=P) (off:=base+off+len*es) new.toList 0 cur w (by rw [← hh]; exact e1) (by rw [e2]; exact e3) (by simp only [Array.length_toList,n4,e2]; omega) n3
      rw [show base+off+len*es+0=base+cs.length by omega] at this
      exact this
     ·have hl0 : len=0:=by omega
      have hy0 : ys.length=0:=by omega
      have harr : new = #[]:=Array.size_eq_zero_iff.1 (by rw [n4,hy0]; simp)
      subst harr
      exact ⟨w,by simp [storeCells],rfl,fun _ _=>rfl,⟨cur,by rw [← hh]; exact e1,rfl,fun _ h=>by simp at h,fun _ _=>rfl⟩,rfl,rfl,rfl⟩
    obtain ⟨w1,hst,SS⟩:=hst
    have hrun:=AcS (P:=P) (w:=w) (w':=w1) (ty:=o.type) hu hX hi (some ⟨b,o',none⟩) len cap ys.length (a.eval z) new (S.len w rfl) (by rw [hsz]; exact n1 w rfl) hle (by simp only [hsz]; exact hst)
    obtain ⟨cur',k1,k2,k3,k4⟩:=SS.block
    have hlen2 : base+cs.length+ys.length*es≤sz:=by
     have hmul : (len+ys.length)*es≤cap*es:=Nat.mul_le_mul_right _ hle
     rw [Nat.add_mul] at hmul; omega
    have hcells : Aaw w1.heap b base (vs++new.toList):=by
     refine Aaw.append ?_ ?_
     ·intro j hj
      have:=e6 j hj
      simp only [Aa6,e1,k1] at this ⊢
      rw [k4 (base+j) (.inl (by omega))]; exact this
     ·intro j hj
      have:=k3 j hj
      simp only [Aa6,k1,hvl]; exact this
    obtain ⟨hr1,g1⟩:=hrel.hr.modify hl SS.size SS.other SS.os SS.tape SS.output (obj.with (cs++AaI ys)) (fun L=>by
     have hfl:=n2.length
     have key : ∃ cur T fr vs,w1.heap[b]? = some (.cells cur T fr)∧cur.size=sz∧Ahn sz fr∧base+(cs++AaI ys).length≤sz∧AaD ⟨c.Z,c.ι,w1.heap⟩ (cs++AaI ys) vs∧Aaw w1.heap b base vs :=
      ⟨cur',T',fr,vs++new.toList,k1,by omega,e3,by simp only [List.length_append,← hfl,Array.length_toList,n4]; omega,(e5.append n2).mono L,hcells⟩
     cases obj with
     | cells _=>exact key
     | grow x =>
      simp only [AaZ.cs?,Option.some.injEq] at hcs
      subst hcs
      exact ⟨by simp [hor.1],key⟩
     | mp _=>cases hcs
     | it _ _=>cases hcs)
    have hl1 : (⟨c.Z,c.ι,w1.heap⟩ : Cx).ι id = .live b base sz:=hl
    obtain ⟨hr2,g2⟩:=hr1.rename hl1 hunN (base+off) (obj.with (cs.drop off++AaI ys)) (fun L=>by
     have L2:=g1.le.trans L
     have hfl:=n2.length
     have hrv : AaD c (cs.drop off++AaI ys) (vs.drop off++new.toList):=(e5.drop off).append n2
     have hca : Aaw w1.heap b (base+off) (vs.drop off++new.toList):=by
      have:=hcells.drop off
      rwa [List.drop_append_of_le_length (by omega)] at this
     have key : ∃ cur T fr vs,w1.heap[b]? = some (.cells cur T fr)∧cur.size=sz∧Ahn sz fr∧base+off+(cs.drop off++AaI ys).length≤sz∧AaD ⟨c.Z,upd (upd c.ι id .dead) N (.live b (base+off) sz),w1.heap⟩ (cs.drop off++AaI ys) vs∧Aaw w1.heap b (base+off) vs :=
      ⟨cur',T',fr,vs.drop off++new.toList,k1,by omega,e3,by simp only [List.length_append,List.length_drop,← hfl,Array.length_toList,n4]; omega,hrv.mono L2,hca⟩
     cases obj with
     | cells _=>exact key
     | grow x=>exact ⟨hng ⟨x,rfl⟩,key⟩
     | mp _=>cases hcs
     | it _ _=>cases hcs)
    refine fin _ _ (.slice (some ⟨b,o',none⟩) (len+ys.length) cap) w1 ?_ hr2 ?_ ?_ (g1.trans g2) ?_
    ·simp only [execOp,ho,resolve,invoke,builtin,List.map_toArray,List.map_cons,List.map_nil,hv,Sem.run_bind,Sem.run_pure,Result.andThen_ok,hrun]
    ·funext j
     by_cases h1 : j=N
     ·subst h1; simp
     ·by_cases h2 : j=id
      ·subst h2; simp [upd,h1]
      ·simp [upd,h1,h2]
    ·simp only [Rep,AbR]
     refine ⟨by simp,rfl,fun h=>by simp at h,fun b' base' sz' h=>?_⟩
     simp only [Aei.live.injEq] at h
     obtain ⟨rfl,rfl,rfl⟩:=h
     exact ⟨cap,o',rfl,fun h=>by rw [ho' h]; rfl,hle,c2,by omega,by simp⟩
    ·intro j h1 h2
     simp only [upd,h2,hunk j h1,if_false]; exact h1
   ·have hold : ∃ old : Array Value,(∀ w',w'.heap=w.heap→(Builtin.firstCells es len (.slice (some ⟨b,o',none⟩) len cap)).run P w' = .ok old w')∧AaD c (cs.drop off) old.toList∧old.size=len*es:=by
     by_cases hl0 : len=0
     ·subst hl0
      have hd : cs.drop off = []:=by apply List.drop_eq_nil_of_le; omega
      refine ⟨#[],fun w' _=>by simp [Builtin.firstCells,loadCells,loadCellsFrom],by rw [hd]; simp [AaD],by simp⟩
     ·have hoff:=ho' (by omega)
      subst hoff
      have hdl : (vs.drop off).length=len*es:=by simp; omega
      refine ⟨(vs.drop off).toArray,fun w' hw'=>?_,e5.drop off,by simp; omega⟩
      have:=Ac3 (P:=P) (w:=w') (b:=b) (off:=base+off) (vs:=vs.drop off) (by rw [hw',← hh]; exact e6.drop off)
      rw [hdl] at this
      simpa [Builtin.firstCells] using this
    obtain ⟨old,o1,o2,o4⟩:=hold
    have hrun:=Ae2 (P:=P) (w:=w) (ty:=o.type) hu hX hi hz0 (some ⟨b,o',none⟩) len cap ys.length (a.eval z) new old S.len (by rw [hsz]; exact n1) (by rw [hsz]; exact o1) (by omega) hm (by rw [hby]; exact hb)
    have hge:=grownCap_ge w (len+ys.length) cap e
    have hlem:=grownCap_le_maxLen w (len+ys.length) cap e hm
    generalize grownCap w (len+ys.length) cap e=cap' at hrun hge hlem
    obtain ⟨hr1,g1⟩:=hrel.hr.kill (id:=id) (by rw [hl]; simp)
    have hunN' : (⟨c.Z,upd c.ι id .dead,c.h⟩ : Cx).ι N = .unused:=by simp only [upd,hNid,if_false]; exact hunN
    have hL2 : c.Le ⟨c.Z,upd (upd c.ι id .dead) N (.live w.heap.size 0 (cap'*es)),w.heap.push (.cells (old++new++Builtin.zeroCells z0.cells (cap'-(len+ys.length))) e)⟩:=by
     refine ⟨fun _ h=>h,fun k hk'' j v hv'=>?_,fun j hj=>?_,fun j b' y' z' hj h1=>?_,fun j hj h1=>?_⟩
     ·have:=hrel.hr.zlt k hk''
      rw [AeO this,← hrel.hr.heap]; exact hv'
     ·simp only [upd]; split
      ·simp
      ·split <;> simp_all
     ·simp only [upd] at h1
      split at h1
      ·subst j; exact absurd hunN hj
      ·split at h1
       ·cases h1
       ·exact h1
     ·simp only [upd] at h1
      split at h1
      ·cases h1
      ·split at h1
       ·cases h1
       ·exact h1
    have harrsz : (old++new++Builtin.zeroCells z0.cells (cap'-(len+ys.length)) : Array Value).size=cap'*es:=by
     simp only [Array.size_append,Ace,n4,o4,hzs,← Nat.add_mul]
     congr 1; omega
    obtain ⟨hr2,g2⟩:=hr1.alloc (id:=N) hunN' (obj.with (cs.drop off++AaI ys)) (.cells (old++new++Builtin.zeroCells z0.cells (cap'-(len+ys.length))) e) 0 (cap'*es)
     (Adn (c:=c) (o:=obj) hcs hng (by simp only [Array.getElem?_push_size]; rfl) harrsz ((o2.append n2).mono hL2) ⟨(Builtin.zeroCells z0.cells (cap'-(len+ys.length))).toList,by rw [Array.toList_append,Array.toList_append]⟩)
    refine fin _ _ (.slice (some ⟨w.heap.size,0,none⟩) (len+ys.length) cap') (w.drew.alloc (.cells (old++new++Builtin.zeroCells z0.cells (cap'-(len+ys.length))) e)) ?_ (hr2.world rfl) rfl ?_ ((g1.trans g2).trans (Aeu.world rfl rfl rfl rfl)) ?_
    ·simp only [execOp,ho,resolve,invoke,builtin,List.map_toArray,List.map_cons,List.map_nil,hv,Sem.run_bind,Sem.run_pure,Result.andThen_ok,hrun]
    ·simp only [Rep,AbR]
     refine ⟨by simp,rfl,fun h=>by simp at h,fun b' base' sz' h=>?_⟩
     simp only [Aei.live.injEq] at h
     obtain ⟨rfl,rfl,rfl⟩:=h
     exact ⟨cap',0,rfl,fun _=>rfl,hge,hlem,by omega,by simp⟩
    ·intro j h1 h2
     simp only [upd,h2,hunk j h1,if_false]; exact h1
 ·intro j hj
  simp only [List.mem_cons,List.not_mem_nil,or_false,not_or] at hj
  simp [upd,hj.1,hj.2]
 ·intro j hj
  rcases List.mem_cons.1 hj with rfl | hj
  ·omega
  ·have:=hs.below j hj; omega
 ·intro j hj
  simp only [List.mem_cons,List.not_mem_nil,or_false] at hj
  rcases hj with rfl | rfl
  ·exact ⟨by omega,fun h=>absurd (by simp) h⟩
  ·exact ⟨by omega,fun _=>Nat.le_refl _⟩
end Go.Abs
