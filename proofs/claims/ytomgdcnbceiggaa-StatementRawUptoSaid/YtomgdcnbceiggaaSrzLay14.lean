import Derived.Test.YtomgdcnbceiggaaSrzLay13
set_option linter.unusedVariables false
set_option linter.unusedSimpArgs false
namespace Go.Abs
open Go.RowKit (Below)
theorem AeD (z : Array Value) (n : Nat) : (Builtin.zeroCells z n).toList=(List.replicate n z.toList).flatten:=by
 unfold Builtin.zeroCells
 simpa using Af9 z n
theorem Aln {P : Program} {o : Oper} {s : Nat→AV} {H : Aae} {N : Nat} (hc : Aag o=true) (t : TypeId) (y : Operand) (ho : o.op = .call { callee := .builtin .clear,args := #[y],argTypes := #[t] }) (id off es len : Nat) (full : Bool)
 (hy : ev s y = .slc id off es len full) (hid : id<N) (obj : Aaq) (hob : H id=some obj) (cs : List AV) (hcs : obj.cs? = some cs) (hl0 : cs≠[]) (e by_ : Nat) (hE : Aa9 P t=some (e,es,by_)) (x : AV) (hx : Abz P e=some x)
 (hl : off+len*es≤cs.length) (hxs : x.cells.length=es) (hx1 : x.cells.all AV.one=true) : Aar P o s H N (.tup []) (upd H id (some (obj.with (AhU cs off (AaW (List.replicate len x)))))) N [id] [id]:=by
 have hne : obj ≠ .grow []:=by
  intro e; subst e
  simp only [Aaq.cs?,Option.some.injEq] at hcs
  exact hl0 hcs.symm
 refine Aar.write id obj _ hid hob hne (.tup []) [id] (fun i h=>by simp at h; omega) (by simp) fun n c s1 H1 a w hrel hu hT b base sz hlive hor=>?_
 have h1:=Aap hrel hu hc (x:=y) (by simp [ho,Op.operands,Call.operands])
 rw [hy] at h1
 obtain ⟨cap,o',hv,ho',k1,k2,k3,k4⟩:=Abi h1 hlive
 obtain ⟨i,hu',hi,hsz,hby,z0,hz0,hzs⟩:=AbP hE
 obtain ⟨v,v1,v2,v3,v4⟩:=AfZ hx hi hz0
 have hzero : (zeroValue e).run P w = .ok z0 w:=by simp [zeroValue,typeInfo,hi,hz0]
 have hh:=hrel.hr.heap
 have hsx : sized es (List.replicate len x):=by
  intro y hy
  rw [List.eq_of_mem_replicate hy]
  exact ⟨v3,hxs⟩
 have hfr:=AfL hsx (Adl (v2 c) len)
 rw [Ad3,v1] at hfr
 have hflen : (AaW (List.replicate len x)).length=len*es:=by
  have:=hfr.length
  rw [← this]; simp [hzs]
 by_cases h0 : len=0
 ·subst h0
  have hs : AhU cs off (AaW (List.replicate 0 x))=cs:=by simp [AaW,AhU]
  have hw : obj.with cs=obj:=by cases obj <;> simp_all [Aaq.cs?,Aaq.with]
  refine ⟨w,.value (.tuple #[]),.tuple #[],.inr rfl,?_,rfl,fun _ _=>rfl,rfl,rfl,rfl,fun L=>⟨?_,?_⟩⟩
  ·simp [execOp,ho,resolve,invoke,builtin,Builtin.clear_,hv,run_underlying hu']
  ·rw [hs,hw]
   exact hor.mono L (by rw [← hh])
  ·simp only [Rep]; exact ⟨#[],rfl,by simp [AaB]⟩
 have hcap : 0<cap:=by omega
 have hoo:=ho' hcap
 obtain ⟨cur,T,fr,vs,e1,e2,e3,e4,e5,e6⟩:=hor.cs hcs
 rw [hh] at e1
 have hone : ∀ u ∈ (Builtin.zeroCells z0.cells len).toList,u.oneCell'=true:=by
  intro u hu2
  rw [AeD] at hu2
  refine AaB.oneCell hfr ?_ u hu2
  rw [List.all_eq_true]
  intro q hq
  simp only [AaW,List.mem_flatMap] at hq
  obtain ⟨y,hy2,hq⟩:=hq
  rw [List.eq_of_mem_replicate hy2] at hq
  exact List.all_eq_true.1 hx1 q hq
 obtain ⟨w',hr,S⟩:=AcF (P:=P) (b:=b) (off:=base+off) (Builtin.zeroCells z0.cells len).toList 0 cur w e1 (by rw [e2]; exact e3) (by rw [AeD]; simp [hzs]; omega) hone
 refine ⟨w',.value (.tuple #[]),.tuple #[],.inr rfl,?_,S.size,S.other,S.os,S.tape,S.output,fun L=>⟨Ae9 hh hcs hor (by rw [hflen]; exact hl) hfr e1 (by rw [← AeD]; exact S) L,by simp only [Rep]; exact ⟨#[],rfl,by simp [AaB]⟩⟩⟩
 subst hoo
 cases len with
 | zero=>exact absurd rfl h0
 | succ m=>simp [execOp,ho,resolve,invoke,builtin,Builtin.clear_,hv,run_underlying hu',hzero,hr]
def AjQ (len : Nat) : AV→AV
 | .slc id off es l _ => .slc id off es (min l len) false
 | x=>x
theorem AoE {P : Program} {w : World} {c : Cx} {H : Aae} (hr : AcH c H w) {X : AV} {v : Value} (hX : Rep c X v) (len : Nat) {ys : List AV} {T : List Nat} {es : Nat} (h : Afc H (AjQ len X)=some (ys,T)) (hs : sized es ys)
 (h1 : ∀ x ∈ AaW ys,x.one=true) (hon : (∃ id off e len f,X = .slc id off e len f)→∀ x ∈ ys,x.one=true) (hle : ys.length≤len) :
 ∃ l,(∀ w',w'.heap=w.heap→(Builtin.lenOf v).run P w' = .ok l w')∧min l len=ys.length ∧
 ∃ arr : Array Value,(∀ w',w'.heap=w.heap→(Builtin.firstCells es ys.length v).run P w' = .ok arr w')∧AaB c (AaW ys) arr.toList∧(∀ u ∈ arr.toList,u.oneCell'=true)∧arr.size=ys.length*es:=by
 by_cases hx : ∃ id off e l f,X = .slc id off e l f
 ·obtain ⟨id,off,e,l,f,rfl⟩:=hx
  simp only [AjQ] at h
  have hob : ∃ o,H id=some o:=by
   unfold Afc at h
   cases ho : H id with
   | some o=>exact ⟨o,rfl⟩
   | none=>split at h <;> simp_all
  obtain ⟨o,ho⟩:=hob
  obtain ⟨a,cap,rfl,c1,c2⟩:=AlY hr hX ho
  have hX' : Rep c (.slc id off e (min l len) false) (.slice a (min l len) cap):=by
   simp only [Rep] at hX ⊢
   obtain ⟨k1,k2,k3,k4⟩:=hX
   refine ⟨k1,rfl,fun he=>?_,fun b base sz hl=>?_⟩
   ·obtain ⟨rfl,a',e'⟩:=k3 he
    simp only [Value.slice.injEq] at e'
    obtain ⟨rfl,_,rfl⟩:=e'
    exact ⟨by simp,a,by simp⟩
   ·obtain ⟨cap',o',e',j1,j2,j3,j4,j5⟩:=k4 b base sz hl
    simp only [Value.slice.injEq] at e'
    obtain ⟨rfl,_,rfl⟩:=e'
    exact ⟨cap,o',rfl,j1,by omega,j3,j4,fun h=>by cases h⟩
  have S:=Adf (P:=P) hr hX' h hs h1 (fun _=>hon ⟨_,_,_,_,_,rfl⟩)
  have e1:=S.len w rfl
  simp only [Builtin.lenOf,Sem.run_pure,Result.ok.injEq,and_true] at e1
  obtain ⟨arr,n1,n2⟩:=S.cells
  refine ⟨l,fun w' _=>by simp [Builtin.lenOf],e1,arr,fun w' hw=>?_,n2⟩
  have:=n1 w' hw
  cases a <;> simpa [Builtin.firstCells] using this
 ·have hc : AjQ len X=X:=by
   cases X <;> simp_all [AjQ]
  rw [hc] at h
  have S:=Adf (P:=P) hr hX h hs h1 hon
  exact ⟨ys.length,S.len,by omega,S.cells⟩
theorem Am0 {P : Program} {o : Oper} {s : Nat→AV} {H : Aae} {N : Nat} (hc : Aag o=true) (t t' : TypeId) (y z : Operand) (ho : o.op = .call { callee := .builtin .copy,args := #[y,z],argTypes := #[t,t'] }) (id off es len : Nat) (full : Bool)
 (hy : ev s y = .slc id off es len full) (hid : id<N) (obj : Aaq) (hob : H id=some obj) (cs : List AV) (hcs : obj.cs? = some cs) (hl0 : cs≠[]) (e by_ : Nat) (hE : Aa9 P t=some (e,es,by_))
 (hl : off+len*es≤cs.length) (ys : List AV) (T : List Nat) (hs : Afc H (AjQ len (ev s z))=some (ys,T)) (hT : ∀ i ∈ T,i<N) (hsz : sized es ys) (h1 : ∀ x ∈ AaW ys,x.one=true)
 (hon : (∃ id off e len f,ev s z = .slc id off e len f)→∀ x ∈ ys,x.one=true) (hle : ys.length≤len) :
 Aar P o s H N (.int .i64 ys.length) (upd H id (some (obj.with (AhU cs off (AaW ys))))) N (id::T) [id]:=by
 have hne : obj ≠ .grow []:=by
  intro e; subst e
  simp only [Aaq.cs?,Option.some.injEq] at hcs
  exact hl0 hcs.symm
 refine Aar.write id obj _ hid hob hne (.int .i64 ys.length) (id::T) (fun i h=>?_) (by simp) fun n c s1 H1 a w hrel hu hT1 b base sz hlive hor=>?_
 ·rcases List.mem_cons.1 h with rfl | h
  ·exact hid
  ·exact hT i h
 have r1:=Aap hrel hu hc (x:=y) (by simp [ho,Op.operands,Call.operands])
 have r2:=Aap hrel hu hc (x:=z) (by simp [ho,Op.operands,Call.operands])
 rw [hy] at r1
 obtain ⟨cap,o',hv,ho',k1,k2,k3,k4⟩:=Abi r1 hlive
 obtain ⟨i,hu',hi,hsz',hby,z0,hz0,hzs⟩:=AbP hE
 obtain ⟨l,q1,q2,arr,q3,q4,q5,q6⟩:=AoE (P:=P) hrel.hr r2 len (AcU hs (fun j hj=>hT1 j (by simp [hj]))) hsz h1 hon hle
 have q2' : Nat.min l len=ys.length:=q2
 by_cases h0 : ys.length=0
 ·have hys : ys = []:=List.length_eq_zero_iff.1 h0
  subst hys
  have harr : arr = #[]:=Array.size_eq_zero_iff.1 (by rw [q6]; simp)
  subst harr
  have hs : AhU cs off (AaW ([] : List AV))=cs:=by simp [AaW,AhU]
  have hw : obj.with cs=obj:=by cases obj <;> simp_all [Aaq.cs?,Aaq.with]
  refine ⟨w,.value (.int .i64 0),.int .i64 0,.inr rfl,?_,rfl,fun _ _=>rfl,rfl,rfl,rfl,fun L=>⟨?_,?_⟩⟩
  ·have q3':=q3 w rfl
   simp [execOp,ho,resolve,invoke,builtin,Builtin.copy_,hv,run_underlying hu',q1 w rfl,sizeOf,typeInfo,hi,hsz',q2',q3',storeCells,goInt] at q3' ⊢
   try simp [q3',storeCells,goInt]
  ·rw [hs,hw]
   exact hor.mono L (by rw [hrel.hr.heap])
  ·simp only [Rep,List.length_nil]; exact ⟨by simp,AhF (n:=0) (by unfold maxLen; omega)⟩
 have hcap : 0<cap:=by omega
 have hoo:=ho' hcap
 have hh:=hrel.hr.heap
 obtain ⟨cur,T',fr,vs,e1,e2,e3,e4,e5,e6⟩:=hor.cs hcs
 rw [hh] at e1
 have hflen : (AaW ys).length=ys.length*es:=by
  have:=q4.length
  rw [← this]; simp [q6]
 have hmul : ys.length*es≤len*es:=Nat.mul_le_mul_right _ hle
 obtain ⟨w',hr,S⟩:=AcF (P:=P) (b:=b) (off:=base+off) arr.toList 0 cur w e1 (by rw [e2]; exact e3) (by simp only [Array.length_toList,q6,e2]; omega) q5
 refine ⟨w',.value (.int .i64 ys.length),.int .i64 ys.length,.inr rfl,?_,S.size,S.other,S.os,S.tape,S.output,fun L=>⟨Ae9 hh hcs hor (by rw [hflen]; omega) q4 e1 S L,by simp only [Rep]; exact ⟨trivial,AhF (by omega)⟩⟩⟩
 subst hoo
 have q3':=q3 w rfl
 try simp only [Nat.add_zero] at hr
 simp [execOp,ho,resolve,invoke,builtin,Builtin.copy_,hv,run_underlying hu',q1 w rfl,sizeOf,typeInfo,hi,hsz',q2',q3',hr,goInt]
def Ajv (es : List (AV×AV)) (k : AV) : List (AV×AV) :=
 match AjH es k with
 | some j=>es.eraseIdx j
 | none=>es
theorem AmO {α : Type} (a : Array α) (j : Nat) (h : j<a.size) : (a.eraseIdxIfInBounds j).toList=a.toList.eraseIdx j:=by
 rw [Array.eraseIdxIfInBounds,dif_pos h,Array.toList_eraseIdx]
theorem Akz {P : Program} {o : Oper} {s : Nat→AV} {H : Aae} {N : Nat} (hc : Aag o=true) (t t' : TypeId) (y z : Operand) (ho : o.op = .call { callee := .builtin .delete,args := #[y,z],argTypes := #[t,t'] }) (id : Nat) (hy : ev s y = .map id) (hid : id<N)
 (es : List (AV×AV)) (hob : H id=some (.mp es)) (kd : Ab5) (zv : AV) (ht : Afx P t=some (kd,zv)) (hk : kd.has (ev s z)=true) (ha : (es.all fun p=>kd.has p.1)=true) :
 Aar P o s H N (.tup []) (upd H id (some (.mp (Ajv es (ev s z))))) N [id] [id] :=
 Aar.write id (.mp es) _ hid hob (by simp) (.tup []) [id] (by simpa using hid) (by simp) fun n c s1 H1 a w hrel hu hT b base sz hl hor=>by
  have r1:=Aap hrel hu hc (x:=y) (by simp [ho,Op.operands,Call.operands])
  have r2:=Aap hrel hu hc (x:=z) (by simp [ho,Op.operands,Call.operands])
  rw [hy] at r1
  simp only [Rep] at r1
  have hv:=r1.2.2 b base sz hl
  obtain ⟨ents,clock,e1,e2,e3⟩:=AhA hor
  rw [hrel.hr.heap] at e1
  unfold Afx at ht
  split at ht
  ·rename_i kt et hm
   split at ht
   ·rename_i kd' i hkd hi
    split at ht
    ·rename_i z0 hz
     split at ht
     ·simp only [Option.some.injEq,Prod.mk.injEq] at ht
      obtain ⟨rfl,rfl⟩:=ht
      obtain ⟨d,hd,hkey⟩:=Aff hkd
      have hkk:=hkey c _ _ hk r2
      rcases AfN hkey hk r2 es ents.toList 0 e2 e3 ha with ⟨f1,f2⟩ | ⟨j,e,f1,f2,f3,f4,f5⟩
      ·refine ⟨{ w with heap:=w.heap.setIfInBounds b (.map ents clock) },.value (.tuple #[]),.tuple #[],.inr rfl,?_,?_,?_,rfl,rfl,rfl,fun L=>⟨?_,by simp only [Rep]; exact ⟨#[],rfl,by simp [AaB]⟩⟩⟩
       ·simp [execOp,ho,resolve,invoke,builtin,Builtin.delete_,hv,run_underlying hm,MapKept.run_getObj_map e1,MapKept.run_checkKey hd hkk,MapKept.run_findKey hd f2,MapKept.run_setObj_map _ e1]
       ·simp
       ·exact fun k hne=>(MapKept.heap_set e1).2 k hne
       ·refine ⟨_,_,(MapKept.heap_set e1).1,?_,?_⟩
        ·simp only [Ajv,f1]; simpa using e2
        ·intro j h1 h2
         simp only [Ajv,f1] at h2 ⊢
         have:=e3 j (by simpa using h1) h2
         simp only [Array.getElem_toList] at this
         exact ⟨this.1.mono L,this.2.mono L⟩
      ·have hj : ents[j]? = some e:=by simpa using f3
       rw [Nat.zero_add] at f5
       have hjl : j<ents.size:=(Array.getElem?_eq_some_iff.1 hj).1
       have hl':=AmO ents j hjl
       refine ⟨{ w with heap:=w.heap.setIfInBounds b (.map (ents.eraseIdxIfInBounds j) clock) },.value (.tuple #[]),.tuple #[],.inr rfl,?_,?_,?_,rfl,rfl,rfl,fun L=>⟨?_,by simp only [Rep]; exact ⟨#[],rfl,by simp [AaB]⟩⟩⟩
       ·simp [execOp,ho,resolve,invoke,builtin,Builtin.delete_,hv,run_underlying hm,MapKept.run_getObj_map e1,MapKept.run_checkKey hd hkk,MapKept.run_findKey hd f5,MapKept.run_setObj_map _ e1]
       ·simp
       ·exact fun k hne=>(MapKept.heap_set e1).2 k hne
       ·have hsz : (ents.eraseIdxIfInBounds j).size=(es.eraseIdx j).length:=by
         rw [← Array.length_toList,hl',List.length_eraseIdx,List.length_eraseIdx,e2]
        refine ⟨_,_,(MapKept.heap_set e1).1,?_,?_⟩
        ·simp only [Ajv,f1]; exact hsz
        ·intro i' h1 h2
         simp only [Ajv,f1] at h2 ⊢
         have g1 : (ents.eraseIdxIfInBounds j)[i']=(ents.toList.eraseIdx j)[i']'(by rw [← hl',Array.length_toList]; exact h1):=by
          rw [← Array.getElem_toList]; simp only [hl']
         rw [g1,List.getElem_eraseIdx,List.getElem_eraseIdx]
         have hle : (es.eraseIdx j).length≤es.length:=by rw [List.length_eraseIdx]; split <;> omega
         have hl3 : (es.eraseIdx j).length=es.length-1:=by rw [List.length_eraseIdx,if_pos f2]
         split
         ·have:=e3 i' (by omega) (by omega)
          exact ⟨this.1.mono L,this.2.mono L⟩
         ·have:=e3 (i'+1) (by omega) (by omega)
          exact ⟨this.1.mono L,this.2.mono L⟩
     ·cases ht
    ·cases ht
   ·cases ht
  ·cases ht
end Go.Abs
