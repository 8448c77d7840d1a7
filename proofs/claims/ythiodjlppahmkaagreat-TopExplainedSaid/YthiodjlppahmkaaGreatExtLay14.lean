import Derived.Test.YthiodjlppahmkaaGreatExtLay13
set_option linter.unusedVariables false
set_option linter.unusedSimpArgs false
namespace Go.Abs
open Go.RowKit (Below)
theorem Adb (z : Array Value) (n : Nat) : (Builtin.zeroCells z n).toList=(List.replicate n z.toList).flatten:=by
 unfold Builtin.zeroCells
 simpa using AhQ z n
theorem Apm {P : Program} {o : Oper} {s : Nat→AV} {H : Aac} {N : Nat} (hc : AaY o=true) (t : TypeId) (y : Operand) (ho : o.op = .call { callee := .builtin .clear,args := #[y],argTypes := #[t] }) (id off es len : Nat) (full : Bool)
 (hy : ev s y = .slc id off es len full) (hid : id<N) (obj : AaZ) (hob : H id=some obj) (cs : List AV) (hcs : obj.cs? = some cs) (hl0 : cs≠[]) (e by_ : Nat) (hE : Aap P t=some (e,es,by_)) (x : AV) (hx : AbD P e=some x)
 (hl : off+len*es≤cs.length) (hxs : x.cells.length=es) (hx1 : x.cells.all AV.one=true) : Aao P o s H N (.tup []) (upd H id (some (obj.with (setR cs off (AaI (List.replicate len x)))))) N [id] [id]:=by
 have hne : obj ≠ .grow []:=by
  intro e; subst e
  simp only [AaZ.cs?,Option.some.injEq] at hcs
  exact hl0 hcs.symm
 refine Aao.write id obj _ hid hob hne (.tup []) [id] (fun i h=>by simp at h; omega) (by simp) fun n c s1 H1 a w hrel hu hT b base sz hlive hor=>?_
 have h1:=Aaj hrel hu hc (x:=y) (by simp [ho,Op.operands,Call.operands])
 rw [hy] at h1
 obtain ⟨cap,o',hv,ho',k1,k2,k3,k4⟩:=Abd h1 hlive
 obtain ⟨i,hu',hi,hsz,hby,z0,hz0,hzs⟩:=Aa9 hE
 obtain ⟨v,v1,v2,v3,v4⟩:=Ae7 hx hi hz0
 have hzero : (zeroValue e).run P w = .ok z0 w:=by simp [zeroValue,typeInfo,hi,hz0]
 have hh:=hrel.hr.heap
 have hsx : sized es (List.replicate len x):=by
  intro y hy
  rw [List.eq_of_mem_replicate hy]
  exact ⟨v3,hxs⟩
 have hfr:=AfG hsx (AdE (v2 c) len)
 rw [AdJ,v1] at hfr
 have hflen : (AaI (List.replicate len x)).length=len*es:=by
  have:=hfr.length
  rw [← this]; simp [hzs]
 by_cases h0 : len=0
 ·subst h0
  have hs : setR cs off (AaI (List.replicate 0 x))=cs:=by simp [AaI,setR]
  have hw : obj.with cs=obj:=by cases obj <;> simp_all [AaZ.cs?,AaZ.with]
  refine ⟨w,.value (.tuple #[]),.tuple #[],.inr rfl,?_,rfl,fun _ _=>rfl,rfl,rfl,rfl,fun L=>⟨?_,?_⟩⟩
  ·simp [execOp,ho,resolve,invoke,builtin,Builtin.clear_,hv,run_underlying hu']
  ·rw [hs,hw]
   exact hor.mono L (by rw [← hh])
  ·simp only [Rep]; exact ⟨#[],rfl,by simp [AaD]⟩
 have hcap : 0<cap:=by omega
 have hoo:=ho' hcap
 obtain ⟨cur,T,fr,vs,e1,e2,e3,e4,e5,e6⟩:=hor.cs hcs
 rw [hh] at e1
 have hone : ∀ u ∈ (Builtin.zeroCells z0.cells len).toList,u.oneCell'=true:=by
  intro u hu2
  rw [Adb] at hu2
  refine AaD.oneCell hfr ?_ u hu2
  rw [List.all_eq_true]
  intro q hq
  simp only [AaI,List.mem_flatMap] at hq
  obtain ⟨y,hy2,hq⟩:=hq
  rw [List.eq_of_mem_replicate hy2] at hq
  exact List.all_eq_true.1 hx1 q hq
 obtain ⟨w',hr,S⟩:=Abx (P:=P) (b:=b) (off:=base+off) (Builtin.zeroCells z0.cells len).toList 0 cur w e1 (by rw [e2]; exact e3) (by rw [Adb]; simp [hzs]; omega) hone
 refine ⟨w',.value (.tuple #[]),.tuple #[],.inr rfl,?_,S.size,S.other,S.os,S.tape,S.output,fun L=>⟨Afj hh hcs hor (by rw [hflen]; exact hl) hfr e1 (by rw [← Adb]; exact S) L,by simp only [Rep]; exact ⟨#[],rfl,by simp [AaD]⟩⟩⟩
 subst hoo
 cases len with
 | zero=>exact absurd rfl h0
 | succ m=>simp [execOp,ho,resolve,invoke,builtin,Builtin.clear_,hv,run_underlying hu',hzero,hr]
def AlA (len : Nat) : AV→AV
 | .slc id off es l _ => .slc id off es (min l len) false
 | x=>x
theorem At2 {P : Program} {w : World} {c : Cx} {H : Aac} (hr : AcX c H w) {X : AV} {v : Value} (hX : Rep c X v) (len : Nat) {ys : List AV} {T : List Nat} {es : Nat} (h : Afc H (AlA len X)=some (ys,T)) (hs : sized es ys)
 (h1 : ∀ x ∈ AaI ys,x.one=true) (hon : (∃ id off e len f,X = .slc id off e len f)→∀ x ∈ ys,x.one=true) (hle : ys.length≤len) :
 ∃ l,(∀ w',w'.heap=w.heap→(Builtin.lenOf v).run P w' = .ok l w')∧min l len=ys.length ∧
 ∃ arr : Array Value,(∀ w',w'.heap=w.heap→(Builtin.firstCells es ys.length v).run P w' = .ok arr w')∧AaD c (AaI ys) arr.toList∧(∀ u ∈ arr.toList,u.oneCell'=true)∧arr.size=ys.length*es:=by
 by_cases hx : ∃ id off e l f,X = .slc id off e l f
 ·obtain ⟨id,off,e,l,f,rfl⟩:=hx
  simp only [AlA] at h
  have hob : ∃ o,H id=some o:=by
   unfold Afc at h
   cases ho : H id with
   | some o=>exact ⟨o,rfl⟩
   | none=>split at h <;> simp_all
  obtain ⟨o,ho⟩:=hob
  obtain ⟨a,cap,rfl,c1,c2⟩:=ApU hr hX ho
  have hX' : Rep c (.slc id off e (min l len) false) (.slice a (min l len) cap):=by
   simp only [Rep] at hX ⊢
   obtain ⟨k1,k2,k3,k4⟩:=hX
   refine ⟨k1,rfl,fun he=>?_,fun b base sz hl=>?_⟩
   ·obtain ⟨rfl,a',e'⟩:=k3 he
    simp only [Value.slice.injEq] at e'
    obtain ⟨rfl,_,rfl⟩:=e'
    exact ⟨by simp,a,by simp⟩
   ·obtain ⟨cap',o',e',j1,j2,j3,j4,j5⟩:=k4 b base sz hl
    simp only [Value.slice.injEq] at e'
    obtain ⟨rfl,_,rfl⟩:=e'
    exact ⟨cap,o',rfl,j1,by omega,j3,j4,fun h=>by cases h⟩
  have S:=AdD (P:=P) hr hX' h hs h1 (fun _=>hon ⟨_,_,_,_,_,rfl⟩)
  have e1:=S.len w rfl
  simp only [Builtin.lenOf,Sem.run_pure,Result.ok.injEq,and_true] at e1
  obtain ⟨arr,n1,n2⟩:=S.cells
  refine ⟨l,fun w' _=>by simp [Builtin.lenOf],e1,arr,fun w' hw=>?_,n2⟩
  have:=n1 w' hw
  cases a <;> simpa [Builtin.firstCells] using this
 ·have hc : AlA len X=X:=by
   cases X <;> simp_all [AlA]
  rw [hc] at h
  have S:=AdD (P:=P) hr hX h hs h1 hon
  exact ⟨ys.length,S.len,by omega,S.cells⟩
theorem ArZ {P : Program} {o : Oper} {s : Nat→AV} {H : Aac} {N : Nat} (hc : AaY o=true) (t t' : TypeId) (y z : Operand) (ho : o.op = .call { callee := .builtin .copy,args := #[y,z],argTypes := #[t,t'] }) (id off es len : Nat) (full : Bool)
 (hy : ev s y = .slc id off es len full) (hid : id<N) (obj : AaZ) (hob : H id=some obj) (cs : List AV) (hcs : obj.cs? = some cs) (hl0 : cs≠[]) (e by_ : Nat) (hE : Aap P t=some (e,es,by_))
 (hl : off+len*es≤cs.length) (ys : List AV) (T : List Nat) (hs : Afc H (AlA len (ev s z))=some (ys,T)) (hT : ∀ i ∈ T,i<N) (hsz : sized es ys) (h1 : ∀ x ∈ AaI ys,x.one=true)
 (hon : (∃ id off e len f,ev s z = .slc id off e len f)→∀ x ∈ ys,x.one=true) (hle : ys.length≤len) :
 Aao P o s H N (.int .i64 ys.length) (upd H id (some (obj.with (setR cs off (AaI ys))))) N (id::T) [id]:=by
 have hne : obj ≠ .grow []:=by
  intro e; subst e
  simp only [AaZ.cs?,Option.some.injEq] at hcs
  exact hl0 hcs.symm
 refine Aao.write id obj _ hid hob hne (.int .i64 ys.length) (id::T) (fun i h=>?_) (by simp) fun n c s1 H1 a w hrel hu hT1 b base sz hlive hor=>?_
 ·rcases List.mem_cons.1 h with rfl | h
  ·exact hid
  ·exact hT i h
 have r1:=Aaj hrel hu hc (x:=y) (by simp [ho,Op.operands,Call.operands])
 have r2:=Aaj hrel hu hc (x:=z) (by simp [ho,Op.operands,Call.operands])
 rw [hy] at r1
 obtain ⟨cap,o',hv,ho',k1,k2,k3,k4⟩:=Abd r1 hlive
 obtain ⟨i,hu',hi,hsz',hby,z0,hz0,hzs⟩:=Aa9 hE
 obtain ⟨l,q1,q2,arr,q3,q4,q5,q6⟩:=At2 (P:=P) hrel.hr r2 len (Ab8 hs (fun j hj=>hT1 j (by simp [hj]))) hsz h1 hon hle
 have q2' : Nat.min l len=ys.length:=q2
 by_cases h0 : ys.length=0
 ·have hys : ys = []:=List.length_eq_zero_iff.1 h0
  subst hys
  have harr : arr = #[]:=Array.size_eq_zero_iff.1 (by rw [q6]; simp)
  subst harr
  have hs : setR cs off (AaI ([] : List AV))=cs:=by simp [AaI,setR]
  have hw : obj.with cs=obj:=by cases obj <;> simp_all [AaZ.cs?,AaZ.with]
  refine ⟨w,.value (.int .i64 0),.int .i64 0,.inr rfl,?_,rfl,fun _ _=>rfl,rfl,rfl,rfl,fun L=>⟨?_,?_⟩⟩
  ·have q3':=q3 w rfl
   simp [execOp,ho,resolve,invoke,builtin,Builtin.copy_,hv,run_underlying hu',q1 w rfl,sizeOf,typeInfo,hi,hsz',q2',q3',storeCells,goInt] at q3' ⊢
   try simp [q3',storeCells,goInt]
  ·rw [hs,hw]
   exact hor.mono L (by rw [hrel.hr.heap])
  ·simp only [Rep,List.length_nil]; exact ⟨by simp,Aiz (n:=0) (by unfold maxLen; omega)⟩
 have hcap : 0<cap:=by omega
 have hoo:=ho' hcap
 have hh:=hrel.hr.heap
 obtain ⟨cur,T',fr,vs,e1,e2,e3,e4,e5,e6⟩:=hor.cs hcs
 rw [hh] at e1
 have hflen : (AaI ys).length=ys.length*es:=by
  have:=q4.length
  rw [← this]; simp [q6]
 have hmul : ys.length*es≤len*es:=Nat.mul_le_mul_right _ hle
 obtain ⟨w',hr,S⟩:=Abx (P:=P) (b:=b) (off:=base+off) arr.toList 0 cur w e1 (by rw [e2]; exact e3) (by simp only [Array.length_toList,q6,e2]; omega) q5
 refine ⟨w',.value (.int .i64 ys.length),.int .i64 ys.length,.inr rfl,?_,S.size,S.other,S.os,S.tape,S.output,fun L=>⟨Afj hh hcs hor (by rw [hflen]; omega) q4 e1 S L,by simp only [Rep]; exact ⟨trivial,Aiz (by omega)⟩⟩⟩
 subst hoo
 have q3':=q3 w rfl
 try simp only [Nat.add_zero] at hr
 simp [execOp,ho,resolve,invoke,builtin,Builtin.copy_,hv,run_underlying hu',q1 w rfl,sizeOf,typeInfo,hi,hsz',q2',q3',hr,goInt]
theorem Alo {P : Program} {o : Oper} {s : Nat→AV} {H : Aac} {N : Nat} (hc : AaY o=true) (t t' : TypeId) (y z : Operand) (ho : o.op = .call { callee := .builtin .append,args := #[y,z],argTypes := #[t,t'] })
 (id off es len : Nat) (full : Bool) (hy : ev s y = .rm (.slc id off es len full)) (hid : id<N) (obj : AaZ) (hob : H id=some obj) (cs : List AV) (hcs : obj.cs? = some cs) (hl0 : cs≠[]) (hend : off+len*es=cs.length)
 (e by_ : Nat) (hE : Aap P t=some (e,es,by_)) (hX : AcP P t'=true) (ys : List AV) (T : List Nat) (hs : AnU H N es (ev s z) ys T) (hy1 : ys.length=1) :
 Aao P o s H N (.slc id off es (len+ys.length) false) (upd H id (some (obj.with (cs++AaI ys)))) N (id::T) [id]:=by
 have hne : obj ≠ .grow []:=by
  intro e; subst e
  simp only [AaZ.cs?,Option.some.injEq] at hcs
  exact hl0 hcs.symm
 refine Aao.write id obj _ hid hob hne (.slc id off es (len+ys.length) false) (id::T) (fun i h=>?_) (by simp) fun n c s1 H1 a w hrel hu hT1 b base sz hlive hor=>?_
 ·rcases List.mem_cons.1 h with rfl | h
  ·exact hid
  ·exact hs.below i h
 have r1:=Aaj hrel hu hc (x:=y) (by simp [ho,Op.operands,Call.operands])
 have r2:=Aaj hrel hu hc (x:=z) (by simp [ho,Op.operands,Call.operands])
 rw [hy,Rep] at r1
 obtain ⟨r1,ad,l,cp,hv2,hlt⟩:=r1
 obtain ⟨cap,o',hv,ho',c1,c2,c3,c4⟩:=Abd r1 hlive
 rw [hv] at hv2
 simp only [Value.slice.injEq] at hv2
 obtain ⟨_,rfl,rfl⟩:=hv2
 obtain ⟨i,hu',hi,hsz,hby,z0,hz0,hzs⟩:=Aa9 hE
 have S:=AdD (P:=P) hrel.hr r2 (Ab8 hs.src (fun j hj=>hT1 j (by simp [hj]))) hs.sized hs.one hs.slc
 obtain ⟨new,n1,n2,n3,n4⟩:=S.cells
 obtain ⟨cur,T',fr,vs,e1,e2,e3,e4,e5,e6⟩:=hor.cs hcs
 have hh:=hrel.hr.heap
 have hvl:=e5.length
 have hle : len+ys.length≤cap:=by omega
 have hmul : (len+ys.length)*es≤cap*es:=Nat.mul_le_mul_right _ hle
 rw [Nat.add_mul] at hmul
 have hst : ∃ w1,(storeCells ((⟨b,o',none⟩ : Addr).add (len*es)) new.toList).run P w = .ok () w1∧Amf w w1 b cur T' fr (base+cs.length) new.toList:=by
  rw [Afw,ho' (by omega)]
  have:=Abx (P:=P) (off:=base+off+len*es) new.toList 0 cur w (by rw [← hh]; exact e1) (by rw [e2]; exact e3) (by simp only [Array.length_toList,n4,e2]; omega) n3
  rw [show base+off+len*es+0=base+cs.length by omega] at this
  exact this
 obtain ⟨w1,hst,SS⟩:=hst
 have hrun:=AcS (P:=P) (w:=w) (w':=w1) (ty:=o.type) hu' hX hi (some ⟨b,o',none⟩) len cap ys.length (a.eval z) new (S.len w rfl) (by rw [hsz]; exact n1 w rfl) hle (by simp only [hsz]; exact hst)
 obtain ⟨cur',k1,k2,k3,k4⟩:=SS.block
 have hcells : Aaw w1.heap b base (vs++new.toList):=by
  refine Aaw.append ?_ ?_
  ·intro j hj
   have:=e6 j hj
   simp only [Aa6,e1,k1] at this ⊢
   rw [k4 (base+j) (.inl (by omega))]; exact this
  ·intro j hj
   have:=k3 j hj
   simp only [Aa6,k1,hvl]; exact this
 refine ⟨w1,.value (.slice (some ⟨b,o',none⟩) (len+ys.length) cap),.slice (some ⟨b,o',none⟩) (len+ys.length) cap,.inr rfl,?_,SS.size,SS.other,SS.os,SS.tape,SS.output,fun L=>⟨?_,?_⟩⟩
 ·simp only [execOp,ho,resolve,invoke,builtin,List.map_toArray,List.map_cons,List.map_nil,hv,Sem.run_bind,Sem.run_pure,Result.andThen_ok,hrun]
 ·have hfl:=n2.length
  have key : ∃ cur T fr vs,w1.heap[b]? = some (.cells cur T fr)∧cur.size=sz∧Ahn sz fr∧base+(cs++AaI ys).length≤sz∧AaD ⟨c.Z,c.ι,w1.heap⟩ (cs++AaI ys) vs∧Aaw w1.heap b base vs :=
   ⟨cur',T',fr,vs++new.toList,k1,by omega,e3,by simp only [List.length_append,← hfl,Array.length_toList,n4]; omega,(e5.append n2).mono L,hcells⟩
  cases obj with
  | cells _=>exact key
  | grow x =>
   simp only [AaZ.cs?,Option.some.injEq] at hcs
   subst hcs
   exact ⟨by simp [hl0],key⟩
  | mp _=>cases hcs
  | it _ _=>cases hcs
 ·simp only [Rep]
  refine ⟨by rw [hlive]; simp,rfl,fun h=>(by rw [hlive] at h; cases h),fun b' base' sz' h=>?_⟩
  rw [hlive] at h
  simp only [Aei.live.injEq] at h
  obtain ⟨rfl,rfl,rfl⟩:=h
  exact ⟨cap,o',rfl,ho',hle,c2,c3,fun h=>(by cases h)⟩
def Akq (es : List (AV×AV)) (k : AV) : List (AV×AV) :=
 match Air es k with
 | some j=>es.eraseIdx j
 | none=>es
theorem Aqw {α : Type} (a : Array α) (j : Nat) (h : j<a.size) : (a.eraseIdxIfInBounds j).toList=a.toList.eraseIdx j:=by
 rw [Array.eraseIdxIfInBounds,dif_pos h,Array.toList_eraseIdx]
theorem Aoj {P : Program} {o : Oper} {s : Nat→AV} {H : Aac} {N : Nat} (hc : AaY o=true) (t t' : TypeId) (y z : Operand) (ho : o.op = .call { callee := .builtin .delete,args := #[y,z],argTypes := #[t,t'] }) (id : Nat) (hy : ev s y = .map id) (hid : id<N)
 (es : List (AV×AV)) (hob : H id=some (.mp es)) (kd : Abe) (zv : AV) (ht : AfE P t=some (kd,zv)) (hk : kd.has (ev s z)=true) (ha : (es.all fun p=>kd.has p.1)=true) :
 Aao P o s H N (.tup []) (upd H id (some (.mp (Akq es (ev s z))))) N [id] [id] :=
 Aao.write id (.mp es) _ hid hob (by simp) (.tup []) [id] (by simpa using hid) (by simp) fun n c s1 H1 a w hrel hu hT b base sz hl hor=>by
  have r1:=Aaj hrel hu hc (x:=y) (by simp [ho,Op.operands,Call.operands])
  have r2:=Aaj hrel hu hc (x:=z) (by simp [ho,Op.operands,Call.operands])
  rw [hy] at r1
  simp only [Rep] at r1
  have hv:=r1.2.2 b base sz hl
  obtain ⟨ents,clock,e1,e2,e3⟩:=Ail hor
  rw [hrel.hr.heap] at e1
  unfold AfE at ht
  split at ht
  ·rename_i kt et hm
   split at ht
   ·rename_i kd' i hkd hi
    split at ht
    ·rename_i z0 hz
     split at ht
     ·simp only [Option.some.injEq,Prod.mk.injEq] at ht
      obtain ⟨rfl,rfl⟩:=ht
      obtain ⟨d,hd,hkey⟩:=Agd hkd
      have hkk:=hkey c _ _ hk r2
      rcases AgC hkey hk r2 es ents.toList 0 e2 e3 ha with ⟨f1,f2⟩ | ⟨j,e,f1,f2,f3,f4,f5⟩
      ·refine ⟨{ w with heap:=w.heap.setIfInBounds b (.map ents clock) },.value (.tuple #[]),.tuple #[],.inr rfl,?_,?_,?_,rfl,rfl,rfl,fun L=>⟨?_,by simp only [Rep]; exact ⟨#[],rfl,by simp [AaD]⟩⟩⟩
       ·simp [execOp,ho,resolve,invoke,builtin,Builtin.delete_,hv,run_underlying hm,MapKept.run_getObj_map e1,MapKept.run_checkKey hd hkk,MapKept.run_findKey hd f2,MapKept.run_setObj_map _ e1]
       ·simp
       ·exact fun k hne=>(MapKept.heap_set e1).2 k hne
       ·refine ⟨_,_,(MapKept.heap_set e1).1,?_,?_⟩
        ·simp only [Akq,f1]; simpa using e2
        ·intro j h1 h2
         simp only [Akq,f1] at h2 ⊢
         have:=e3 j (by simpa using h1) h2
         simp only [Array.getElem_toList] at this
         exact ⟨this.1.mono L,this.2.mono L⟩
      ·have hj : ents[j]? = some e:=by simpa using f3
       rw [Nat.zero_add] at f5
       have hjl : j<ents.size:=(Array.getElem?_eq_some_iff.1 hj).1
       have hl':=Aqw ents j hjl
       refine ⟨{ w with heap:=w.heap.setIfInBounds b (.map (ents.eraseIdxIfInBounds j) clock) },.value (.tuple #[]),.tuple #[],.inr rfl,?_,?_,?_,rfl,rfl,rfl,fun L=>⟨?_,by simp only [Rep]; exact ⟨#[],rfl,by simp [AaD]⟩⟩⟩
       ·simp [execOp,ho,resolve,invoke,builtin,Builtin.delete_,hv,run_underlying hm,MapKept.run_getObj_map e1,MapKept.run_checkKey hd hkk,MapKept.run_findKey hd f5,MapKept.run_setObj_map _ e1]
       ·simp
       ·exact fun k hne=>(MapKept.heap_set e1).2 k hne
       ·have hsz : (ents.eraseIdxIfInBounds j).size=(es.eraseIdx j).length:=by
         rw [← Array.length_toList,hl',List.length_eraseIdx,List.length_eraseIdx,e2]
        refine ⟨_,_,(MapKept.heap_set e1).1,?_,?_⟩
        ·simp only [Akq,f1]; exact hsz
        ·intro i' h1 h2
         simp only [Akq,f1] at h2 ⊢
         have g1 : (ents.eraseIdxIfInBounds j)[i']=(ents.toList.eraseIdx j)[i']'(by rw [← hl',Array.length_toList]; exact h1):=by
          rw [← Array.getElem_toList]; simp only [hl']
         rw [g1,List.getElem_eraseIdx,List.getElem_eraseIdx]
         have hle : (es.eraseIdx j).length≤es.length:=by rw [List.length_eraseIdx]; split <;> omega
         have hl3 : (es.eraseIdx j).length=es.length-1:=by rw [List.length_eraseIdx,if_pos f2]
         split
         ·have:=e3 i' (by omega) (by omega)
          exact ⟨this.1.mono L,this.2.mono L⟩
         ·have:=e3 (i'+1) (by omega) (by omega)
          exact ⟨this.1.mono L,this.2.mono L⟩
     ·cases ht
    ·cases ht
   ·cases ht
  ·cases ht
end Go.Abs
