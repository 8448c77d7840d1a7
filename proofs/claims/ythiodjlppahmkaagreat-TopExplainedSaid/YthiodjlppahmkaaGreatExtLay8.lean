import Derived.Test.YthiodjlppahmkaaGreatExtLay7
set_option linter.unusedVariables false
set_option linter.unusedSimpArgs false
namespace Go.Abs
open Go.RowKit (Below)
theorem AmG (off : Nat) : ∀ (l : List Value) (k : Nat) (cells : Array Value),off+k+l.length≤cells.size →
 let r:=(l.zipIdx k).foldl (fun (cs : Array Value) (p : Value×Nat)=>cs.setIfInBounds (off+p.2) p.1) cells
 r.size=cells.size∧(∀ j (h : j<l.length),r[off+k+j]? = some l[j])∧∀ j,(j<off+k∨off+k+l.length≤j)→r[j]? = cells[j]?
 | [],k,cells,_=>⟨rfl,fun j h=>by simp at h,fun _ _=>rfl⟩
 | v::l,k,cells,h=>by
  simp only [List.length_cons] at h
  obtain ⟨h1,h2,h3⟩:=AmG off l (k+1) (cells.setIfInBounds (off+k) v) (by simp; omega)
  simp only [List.zipIdx_cons,List.foldl_cons]
  refine ⟨by rw [h1]; simp,fun j hj=>?_,fun j hj=>?_⟩
  ·cases j with
   | zero =>
    have:=h3 (off+k) (.inl (by omega))
    rw [show off+k+0=off+k from rfl,this]
    simp [show off+k<cells.size by omega]
   | succ j =>
    have:=h2 j (by simpa using hj)
    rw [show off+(k+1)+j=off+k+(j+1) by omega] at this
    simpa using this
  ·simp only [List.length_cons] at hj
   rw [h3 j (by omega),Array.getElem?_setIfInBounds_ne (by omega)]
theorem Aj1 (v : Value) (off : Nat) (cells : Array Value) (h : off+v.cells.size≤cells.size) :
 (v.cells.zipIdx.foldl (fun (cs : Array Value) (p : Value×Nat)=>cs.setIfInBounds (off+p.2) p.1) cells).toList=cells.toList.take off++v.cells.toList++cells.toList.drop (off+v.cells.size):=by
 have e : v.cells.zipIdx.foldl (fun (cs : Array Value) (p : Value×Nat)=>cs.setIfInBounds (off+p.2) p.1) cells =
  (v.cells.toList.zipIdx 0).foldl (fun (cs : Array Value) (p : Value×Nat)=>cs.setIfInBounds (off+p.2) p.1) cells:=by
  rw [← Array.foldl_toList,Array.toList_zipIdx]
 rw [e]
 obtain ⟨h1,h2,h3⟩:=AmG off v.cells.toList 0 cells (by simpa using h)
 generalize (v.cells.toList.zipIdx 0).foldl (fun (cs : Array Value) (p : Value×Nat)=>cs.setIfInBounds (off+p.2) p.1) cells=r at h1 h2 h3
 simp only [Nat.add_zero,Array.length_toList] at h2 h3
 apply List.ext_getElem?
 intro j
 rw [Array.getElem?_toList]
 by_cases hj : j<off
 ·rw [h3 j (.inl hj),List.append_assoc,List.getElem?_append_left (by simp; omega),List.getElem?_take_of_lt hj,Array.getElem?_toList]
 ·by_cases hj2 : j<off+v.cells.size
  ·rw [List.append_assoc,List.getElem?_append_right (by simp; omega),List.getElem?_append_left (by simp; omega)]
   have:=h2 (j-off) (by omega)
   rw [show off+(j-off)=j by omega] at this
   rw [this]
   have hmin : min off cells.toList.length=off:=by simp; omega
   rw [List.length_take,hmin,List.getElem?_eq_getElem (by simp; omega)]
  ·rw [h3 j (.inr (by omega)),List.getElem?_append_right (by simp; omega),List.getElem?_drop,Array.getElem?_toList]
   congr 1
   simp; omega
theorem Agj (es : Nat) : ∀ (us : List Value) (k : Nat) (cells : Array Value),(∀ u ∈ us,u.cells.size=es)→cells.size=(k+us.length)*es →
 ∃ cells',Instr.fill (fun i=>some (i*es,es)) cells ((us.zipIdx k).map fun p=>(p.2,p.1))=some cells'∧cells'.toList=cells.toList.take (k*es)++Ad5 us
 | [],k,cells,_,hsz=>⟨cells,rfl,by
  simp only [Ad5,List.flatMap_nil,List.append_nil]
  rw [List.take_of_length_le]
  simp only [Array.length_toList,hsz,List.length_nil,Nat.add_zero]
  exact Nat.le_refl _⟩
 | u::us,k,cells,hs,hsz=>by
  have hu:=hs u (by simp)
  simp only [List.length_cons] at hsz
  have hmul : (k+(us.length+1))*es=k*es+es+us.length*es:=by rw [Nat.add_mul,Nat.add_mul]; omega
  have hle : k*es+u.cells.size≤cells.size:=by omega
  have hf:=Aj1 u (k*es) cells hle
  generalize hr : u.cells.zipIdx.foldl (fun (cs : Array Value) (p : Value×Nat)=>cs.setIfInBounds (k*es+p.2) p.1) cells=r at hf
  have hrs : r.size=cells.size:=by
   rw [← Array.length_toList,hf]
   simp only [List.length_append,List.length_take,List.length_drop,Array.length_toList]
   omega
  obtain ⟨cells',h1,h2⟩:=Agj es us (k+1) r (fun v hv=>hs v (by simp [hv])) (by rw [hrs,hsz]; congr 1; omega)
  refine ⟨cells',?_,?_⟩
  ·simp only [List.zipIdx_cons,List.map_cons,Instr.fill,hu,ne_eq,not_true,false_or]
   rw [if_neg (by simp; omega)]
   rw [hr]
   exact h1
  ·rw [h2,hf]
   simp only [Ad5,List.flatMap_cons]
   have hl : ((cells.toList.take (k*es))++u.cells.toList).length=(k+1)*es:=by
    simp only [List.length_append,List.length_take,Array.length_toList,hu,Nat.add_mul]; omega
   rw [List.take_append_of_le_length (by omega),List.take_of_length_le (by omega),List.append_assoc]
def AgV : Nat→List (Nat×Operand)→Bool
 | _,[]=>true
 | k,(i,_)::r=>i==k&&AgV (k+1) r
theorem Aj4 (ρ : Operand→Value) : ∀ (l : List (Nat×Operand)) (k : Nat),AgV k l=true→l.map (fun p=>(p.1,ρ p.2))=((l.map fun p=>ρ p.2).zipIdx k).map fun p=>(p.2,p.1)
 | [],_,_=>rfl
 | (i,x)::r,k,h=>by
  simp only [AgV,Bool.and_eq_true,beq_iff_eq] at h
  simp only [List.map_cons,List.zipIdx_cons,Aj4 ρ r (k+1) h.2,h.1]
theorem Aku {c : Cx} {s : Nat→AV} {ρ : Operand→Value} : ∀ (l : List (Nat×Operand)),(∀ p ∈ l,Rep c (ev s p.2) (ρ p.2))→AaD c (l.map fun p=>ev s p.2) (l.map fun p=>ρ p.2)
 | [],_=>by simp [AaD]
 | p::l,h=>by
  simp only [List.map_cons,AaD]
  exact ⟨_,_,rfl,h p (by simp),Aku l fun q hq=>h q (by simp [hq])⟩
theorem AgR {P : Program} {w : World} {c : Cx} {s : Nat→AV} {ρ : Operand→Value} {t e es by_ n : Nat} (hE : Aap P t=some (e,es,by_)) (parts : Array (Nat×Operand)) (hcon : AgV 0 parts.toList=true) (hn : parts.size=n)
 (hr : ∀ p ∈ parts.toList,Rep c (ev s p.2) (ρ p.2)) (hs : sized es (parts.toList.map fun p=>ev s p.2)) (hbig : n*es≤16777216) :
 ∃ arr : Array Value,(Instr.buildSlice t n (parts.map fun (i,x)=>(i,ρ x))).run P w = .ok (.slice (some ⟨w.heap.size,0,none⟩) n n) (w.alloc (.cells arr e))∧arr.toList=Ad5 (parts.toList.map fun p=>ρ p.2)∧arr.size=n*es:=by
 obtain ⟨i,hu,hi,hsz,hby,z0,hz0,hzs⟩:=Aa9 hE
 have hrv:=Aku parts.toList hr
 have hus:=Ae0 hs hrv
 have hul : (parts.toList.map fun p=>ρ p.2).length=n:=by simp [hn]
 have hfl:=Afq hus
 have hcon':=Aj4 ρ parts.toList 0 hcon
 have hparts : (parts.map fun (p : Nat×Operand)=>(p.1,ρ p.2)).toList=((parts.toList.map fun p=>ρ p.2).zipIdx 0).map fun p=>(p.2,p.1):=by
  rw [Array.toList_map,hcon']
 obtain ⟨cells',h1,h2⟩:=Agj es (parts.toList.map fun p=>ρ p.2) 0 ((Array.range (n*es)).map (z0.cells[· % z0.cells.size]!)) hus (by simp [hul,hn])
 have hbig' : ¬ (16777216<n*es):=by omega
 by_cases h0 : n*es=0
 ·obtain ⟨cells0,g1,g2⟩:=Agj es (parts.toList.map fun p=>ρ p.2) 0 #[] hus (by simp [hul,h0])
  refine ⟨cells0,?_,by simpa using g2,?_⟩
  ·simp only [Instr.buildSlice,Sem.run_bind,run_underlying hu,Result.andThen_ok,Ad8 (P:=P) (w:=w) (t:=e) (n:=es) (by simp [Aa8,hi,hsz]),h0,hparts]
   have e0 : ∀ f : Nat→Value,(Array.range 0).map f = #[]:=fun f=>by simp [Array.range]
   simp [e0,g1,newRow]
  ·rw [← Array.length_toList,g2]; simp [hfl,hul]
 ·refine ⟨cells',?_,by simpa using h2,?_⟩
  ·simp only [Instr.buildSlice,Sem.run_bind,run_underlying hu,Result.andThen_ok,Ad8 (P:=P) (w:=w) (t:=e) (n:=es) (by simp [Aa8,hi,hsz]),hparts,h0,if_false,gt_iff_lt]
   simp [hbig',zeroValue,typeInfo,hi,hz0,h1,newRow]
  ·rw [← Array.length_toList,h2]; simp [hfl,hul]
theorem Ah3 {P : Program} {o : Oper} {s : Nat→AV} {H : Aac} {N : Nat} (hc : AaY o=true) (t n : Nat) (parts : Array (Nat×Operand)) (ho : o.op = .buildSlice t n parts) (e es by_ : Nat) (hE : Aap P t=some (e,es,by_))
 (hcon : AgV 0 parts.toList=true) (hn : parts.size=n) (hs : sized es (parts.toList.map fun p=>ev s p.2)) (h1 : ∀ x ∈ AaI (parts.toList.map fun p=>ev s p.2),x.one=true) (hbig : n*es≤16777216) (hes : 0<es) :
 Aao P o s H N (.lst false true (parts.toList.map fun p=>ev s p.2)) H N [] []:=by
 refine Aao.newZ [] (fun _ h=>by simp at h) fun m c s1 H1 a w hrel hu' hT=>?_
 have hr : ∀ p ∈ parts.toList,Rep c (ev s p.2) (a.eval p.2):=fun p hp=>Aaj hrel hu' hc (x:=p.2) (by simp only [ho,Op.operands,List.mem_map]; exact ⟨p,by simpa using hp,rfl⟩)
 obtain ⟨arr,h2,h3,h4⟩:=AgR (P:=P) (w:=w) hE parts hcon hn hr hs hbig
 have hrv:=Aku parts.toList hr
 have hus:=Ae0 hs hrv
 refine ⟨.slice (some ⟨w.heap.size,0,none⟩) n n,.cells arr e,w.alloc (.cells arr e),by simp only [execOp,ho,Sem.run_bind,h2,Result.andThen_ok,Sem.run_pure],rfl,rfl,rfl,rfl,fun L=>?_⟩
 simp only [Rep]
 right
 have hul : (parts.toList.map fun p=>a.eval p.2).length=n:=by simp [hn]
 refine ⟨trivial,_,w.heap.size,0,n,es,parts.toList.map fun p=>a.eval p.2,by rw [hul],by rw [hul]; exact Nat.le_refl _,?_,fun _=>by rw [hul],fun _=>⟨rfl,.inr rfl⟩,?_,hrv.mono L⟩
 ·have : n≤n*es:=Nat.le_mul_of_pos_right _ hes
  unfold maxLen; omega
 ·rw [Ab5 hus]
  exact AdY (by simp only [Array.getElem?_push_size]; rfl) ⟨[],by rw [h3,List.append_nil]⟩
theorem Ah2 {P : Program} {o : Oper} {s : Nat→AV} {H : Aac} {N : Nat} (hc : AaY o=true) (t n : Nat) (parts : Array (Nat×Operand)) (ho : o.op = .buildSlice t n parts) (e es by_ : Nat) (hE : Aap P t=some (e,es,by_))
 (hcon : AgV 0 parts.toList=true) (hn : parts.size=n) (hs : sized es (parts.toList.map fun p=>ev s p.2)) (h1 : ∀ x ∈ AaI (parts.toList.map fun p=>ev s p.2),x.one=true) (hbig : n*es≤16777216) (hes : 0<es) :
 Aao P o s H N (.slc N 0 es n true) (upd H N (some (.cells (AaI (parts.toList.map fun p=>ev s p.2))))) (N+1) [] [N]:=by
 refine Aao.new (.cells (AaI (parts.toList.map fun p=>ev s p.2))) [] (fun _ h=>by simp at h) fun m c s1 H1 a w hrel hu' hT hun=>?_
 have hr : ∀ p ∈ parts.toList,Rep c (ev s p.2) (a.eval p.2):=fun p hp=>Aaj hrel hu' hc (x:=p.2) (by simp only [ho,Op.operands,List.mem_map]; exact ⟨p,by simpa using hp,rfl⟩)
 obtain ⟨arr,h2,h3,h4⟩:=AgR (P:=P) (w:=w) hE parts hcon hn hr hs hbig
 have hrv:=Aku parts.toList hr
 have hfr:=AfG hs hrv
 refine ⟨.slice (some ⟨w.heap.size,0,none⟩) n n,.cells arr e,w.alloc (.cells arr e),0,arr.size,by simp only [execOp,ho,Sem.run_bind,h2,Result.andThen_ok,Sem.run_pure],rfl,rfl,rfl,rfl,fun L=>⟨Af4 (by rw [h3]; exact hfr) L,?_⟩⟩
 have : n≤n*es:=Nat.le_mul_of_pos_right _ hes
 simp only [Rep,AbR]
 refine ⟨by simp,rfl,fun h=>by simp at h,fun b' base' sz' h=>?_⟩
 simp only [Aei.live.injEq] at h
 obtain ⟨rfl,rfl,rfl⟩:=h
 exact ⟨n,0,rfl,fun _=>rfl,Nat.le_refl _,by unfold maxLen; omega,by omega,fun _=>rfl⟩
def AbD (P : Program) (e : TypeId) : Option AV :=
 match Ab1 P e,AbW P e with
 | some false,some [z]=>if z.one then some z else none
 | some true,some zs=>some (.agg zs)
 | _,_=>none
theorem AhQ (z : Array Value) : ∀ m,((List.range (m*z.size)).map fun i=>z[i % z.size]!)=(List.replicate m z.toList).flatten
 | 0=>by simp
 | m+1=>by
  have ih:=AhQ z m
  rw [Nat.add_mul,Nat.one_mul,List.range_add,List.map_append,ih,List.replicate_succ',List.flatten_append,List.flatten_singleton]
  congr 1
  rw [List.map_map]
  apply List.ext_getElem
  ·simp
  ·intro i h1 h2
   simp only [List.length_map,List.length_range] at h1
   simp [Nat.add_comm (m*z.size) i,Nat.add_mul_mod_self_right,Nat.mod_eq_of_lt h1,h1]
theorem Agv {P : Program} {w : World} {t e es by_ : Nat} (hE : Aap P t=some (e,es,by_)) (k k' : IntKind) (m : Nat) (hb : by_*m≤281474976710656) (hm : m≤maxLen) :
 ∃ z0,(∃ i,P.info? e=some i∧i.zero=some z0∧z0.cells.size=es)∧(Instr.makeSlice t (.int k (m : Int)) (.int k' (m : Int))).run P w =
  .ok (.slice (some ⟨w.heap.size,0,none⟩) m m) (w.alloc (.cells ((List.replicate m z0.cells.toList).flatten).toArray e)):=by
 obtain ⟨i,hu,hi,hsz,hby,z0,hz0,hzs⟩:=Aa9 hE
 refine ⟨z0,⟨i,hi,hz0,hzs⟩,?_⟩
 have hw : IntKind.i64.wrap (m : Int)=m:=by
  unfold maxLen at hm
  simp only [IntKind.wrap,IntKind.bits,IntKind.signed]
  have : ((m : Int) % 2 ^ 64)=m:=Int.emod_eq_of_lt (by omega) (by omega)
  simp only [this,Bool.true_and,decide_eq_true_eq]
  rw [if_neg (by omega)]
 have h1 : ¬ ((m : Int)<0):=by omega
 have h2 : ¬ ((281474976710656 : Int)<(by_ : Int)*(m : Int)):=by
  have : ((by_*m : Nat) : Int)≤(281474976710656 : Nat):=by exact_mod_cast hb
  simp only [Int.natCast_mul] at this
  omega
 have hcells : (if m*es=0 then (#[] : Array Value) else z0.cells)=z0.cells∨m*es=0:=by
  by_cases h : m*es=0
  ·exact .inr h
  ·exact .inl (if_neg h)
 have hfin : ∀ z : Array Value,(z=z0.cells∨m*es=0)→((Array.range (m*es)).map (z[· % z.size]!))=((List.replicate m z0.cells.toList).flatten).toArray:=by
  intro z hz
  apply Array.ext'
  rcases hz with rfl | h0
  ·rw [← hzs]
   simpa using AhQ z0.cells m
  ·have : ((List.replicate m z0.cells.toList).flatten) = []:=by
    apply List.eq_nil_of_length_eq_zero
    simp [hzs,h0]
   rw [this,h0]; simp
 by_cases h0 : m*es=0
 ·have hf : ∀ f : Nat→Value,(Array.range (m*es)).map f=((List.replicate m z0.cells.toList).flatten).toArray:=by
   intro f
   have : ((List.replicate m z0.cells.toList).flatten) = []:=by
    apply List.eq_nil_of_length_eq_zero
    simp [hzs,h0]
   rw [this,h0]; simp [Array.range]
  simp [Instr.makeSlice,run_underlying hu,asInt,asIntOf,typeInfo,hi,hby,hw,h1,h2,sizeOf,hsz,newRow,hf]
  intro h; exact absurd h0 h
 ·have:=hfin z0.cells (.inl rfl)
  simp [Instr.makeSlice,run_underlying hu,asInt,asIntOf,typeInfo,hi,hby,hw,h1,h2,sizeOf,hsz,newRow,h0,zeroValue,hz0]
  rw [this]
theorem Ae7 {P : Program} {e : TypeId} {x : AV} (h : AbD P e=some x) {i : TypeInfo} (hi : P.info? e=some i) {z0 : Value} (hz : i.zero=some z0) :
 ∃ v : Value,v.cells.toList=z0.cells.toList∧(∀ c,Rep c x v)∧x.okc=true∧x.cells.length=z0.cells.size:=by
 unfold AbD at h
 split at h
 ·rename_i z hta htz
  split at h
  ·rename_i hone
   simp only [Option.some.injEq] at h
   subst h
   obtain ⟨i',v,hi',hz',hok,hsz,hzz⟩:=AfA htz
   rw [hi] at hi'; cases hi'
   rw [hz] at hz'; cases hz'
   have hl : z0.cells.toList.length=1:=by
    have:=congrArg List.length hzz; simpa using this.symm
   obtain ⟨u,hu⟩:=List.length_eq_one_iff.1 hl
   rw [hu] at hzz
   simp only [List.map_cons,List.map_nil,List.cons.injEq,and_true] at hzz
   subst hzz
   have hoku:=Afi hok
   rw [hu] at hoku
   simp only [List.all_cons,List.all_nil,Bool.and_true] at hoku
   have hr : ∀ c,Rep c (ofS u) u:=fun c=>AnB c u hoku
   have hc:=Ac8 ((hr ⟨fun _=>True,fun _ => .unused,#[]⟩).oneCell hone)
   refine ⟨u,by rw [hc,hu],hr,by simp [AV.okc,hone],?_⟩
   have : (ofS u).cells = [ofS u]:=by
    generalize ofS u=y at hone
    cases y <;> first | rfl | simp [AV.one] at hone
   rw [this,← Array.length_toList,hu]; rfl
  ·cases h
 ·rename_i zs hta htz
  simp only [Option.some.injEq] at h
  subst h
  obtain ⟨i',v,hi',hz',hok,hsz,hzz⟩:=AfA htz
  rw [hi] at hi'; cases hi'
  rw [hz] at hz'; cases hz'
  refine ⟨.agg z0.cells,rfl,fun c=>?_,rfl,by simp [AV.cells,hzz]⟩
  simp only [Rep]
  exact ⟨_,rfl,by rw [hzz]; exact Af3 c _ (Afi hok)⟩
 ·cases h
theorem AdE {c : Cx} {x : AV} {v : Value} (h : Rep c x v) : ∀ m,AaD c (List.replicate m x) (List.replicate m v)
 | 0=>by simp [AaD]
 | m+1=>by simp only [List.replicate_succ,AaD]; exact ⟨_,_,rfl,h,AdE h m⟩
theorem AdJ (v : Value) (m : Nat) : Ad5 (List.replicate m v)=(List.replicate m v.cells.toList).flatten:=by
 simp [Ad5,List.flatMap,List.map_replicate]
theorem Aij {P : Program} {o : Oper} {s : Nat→AV} {H : Aac} {N : Nat} (hc : AaY o=true) (t : TypeId) (y z : Operand) (ho : o.op = .makeSlice t y z) (e es by_ : Nat) (hE : Aap P t=some (e,es,by_))
 (k k' : IntKind) (m : Int) (hy : ev s y = .int k m) (hz : ev s z = .int k' m) (h0 : 0≤m) (hb : by_*m.toNat≤281474976710656) (hm : m.toNat≤maxLen) (x : AV) (hx : AbD P e=some x) :
 Aao P o s H N (.lst false true (List.replicate m.toNat x)) H N [] []:=by
 refine Aao.newZ [] (fun _ h=>by simp at h) fun n c s1 H1 a w hrel hu' hT=>?_
 have r1:=Aaj hrel hu' hc (x:=y) (by simp [ho,Op.operands])
 have r2:=Aaj hrel hu' hc (x:=z) (by simp [ho,Op.operands])
 rw [hy] at r1; rw [hz] at r2
 simp only [Rep] at r1 r2
 obtain ⟨z0,⟨i,hi,hz0,hzs⟩,hrun⟩:=Agv (P:=P) (w:=w) hE k k' m.toNat hb hm
 have hmm : ((m.toNat : Nat) : Int)=m:=by omega
 rw [hmm] at hrun
 obtain ⟨v,v1,v2,v3,v4⟩:=Ae7 hx hi hz0
 refine ⟨.slice (some ⟨w.heap.size,0,none⟩) m.toNat m.toNat,_,w.alloc (.cells ((List.replicate m.toNat z0.cells.toList).flatten).toArray e),by simp only [execOp,ho,r1.1,r2.1,Sem.run_bind,hrun,Result.andThen_ok,Sem.run_pure],rfl,rfl,rfl,rfl,fun L=>?_⟩
 simp only [Rep]
 right
 refine ⟨trivial,_,w.heap.size,0,m.toNat,es,List.replicate m.toNat v,by simp,by simp,hm,by simp,fun _=>⟨rfl,.inr rfl⟩,?_,AdE (v2 _) _⟩
 have hvs : ∀ u ∈ List.replicate m.toNat v,u.cells.size=es:=by
  intro u hu
  rw [List.eq_of_mem_replicate hu,← Array.length_toList,v1]; simpa using hzs
 rw [Ab5 hvs,AdJ,v1]
 exact AdY (by simp only [Array.getElem?_push_size]; rfl) ⟨[],by simp⟩
theorem Aii {P : Program} {o : Oper} {s : Nat→AV} {H : Aac} {N : Nat} (hc : AaY o=true) (t : TypeId) (y z : Operand) (ho : o.op = .makeSlice t y z) (e es by_ : Nat) (hE : Aap P t=some (e,es,by_))
 (k k' : IntKind) (m : Int) (hy : ev s y = .int k m) (hz : ev s z = .int k' m) (h0 : 0≤m) (hb : by_*m.toNat≤281474976710656) (hm : m.toNat≤maxLen) (x : AV) (hx : AbD P e=some x) :
 Aao P o s H N (.slc N 0 es m.toNat true) (upd H N (some (.cells (AaI (List.replicate m.toNat x))))) (N+1) [] [N]:=by
 refine Aao.new (.cells (AaI (List.replicate m.toNat x))) [] (fun _ h=>by simp at h) fun n c s1 H1 a w hrel hu' hT hun=>?_
 have r1:=Aaj hrel hu' hc (x:=y) (by simp [ho,Op.operands])
 have r2:=Aaj hrel hu' hc (x:=z) (by simp [ho,Op.operands])
 rw [hy] at r1; rw [hz] at r2
 simp only [Rep] at r1 r2
 obtain ⟨z0,⟨i,hi,hz0,hzs⟩,hrun⟩:=Agv (P:=P) (w:=w) hE k k' m.toNat hb hm
 have hmm : ((m.toNat : Nat) : Int)=m:=by omega
 rw [hmm] at hrun
 obtain ⟨v,v1,v2,v3,v4⟩:=Ae7 hx hi hz0
 have hsx : sized es (List.replicate m.toNat x):=by
  intro y hy
  rw [List.eq_of_mem_replicate hy]
  exact ⟨v3,by omega⟩
 have hfr:=AfG hsx (AdE (v2 c) m.toNat)
 rw [AdJ,v1] at hfr
 have hasz : ((List.replicate m.toNat z0.cells.toList).flatten).toArray.size=m.toNat*es:=by simp [hzs]
 refine ⟨.slice (some ⟨w.heap.size,0,none⟩) m.toNat m.toNat,_,w.alloc (.cells ((List.replicate m.toNat z0.cells.toList).flatten).toArray e),0,((List.replicate m.toNat z0.cells.toList).flatten).toArray.size,by simp only [execOp,ho,r1.1,r2.1,Sem.run_bind,hrun,Result.andThen_ok,Sem.run_pure],rfl,rfl,rfl,rfl,fun L=>⟨Af4 (by simpa using hfr) L,?_⟩⟩
 simp only [Rep,AbR]
 refine ⟨by simp,rfl,fun h=>by simp at h,fun b' base' sz' h=>?_⟩
 simp only [Aei.live.injEq] at h
 obtain ⟨rfl,rfl,rfl⟩:=h
 exact ⟨m.toNat,0,rfl,fun _=>rfl,Nat.le_refl _,hm,by omega,fun _=>rfl⟩
def Aau (P : Program) (t : TypeId) (f : Nat) : Option (Nat×Nat) :=
 match P.underlying t with
 | some (.struct fs)=>(fs[f]?).bind fun g=>(P.info? g.type).map fun i=>(g.offset,i.size)
 | some (.array n e)=>if f<n then (P.info? e).map fun i=>(f*i.size,i.size) else none
 | _=>none
def Abp (P : Program) (t : TypeId) : Bool :=
 match P.underlying t with
 | some (.struct fs)=>fs.toList.all fun g=>(P.info? g.type).isSome
 | some (.array _ e)=>(P.info? e).isSome
 | _=>false
def Aj2 (P : Program) (t : TypeId) : List AV→List (Nat×AV)→Option (List AV)
 | cs,[]=>some cs
 | cs,(f,x)::r=>match Aau P t f with
  | some (off,size)=>if x.cells.length=size∧x.okc=true∧off+size≤cs.length then Aj2 P t (setR cs off x.cells) r else none
  | none=>none
theorem Ak4 {P : Program} {t : TypeId} {c : Cx} {place : Nat→Option (Nat×Nat)} (hp : ∀ f p,Aau P t f=some p→place f=some p) : ∀ (ps : List (Nat×AV)) (vs : List (Nat×Value)) (cells : Array Value) (cs cs' : List AV),
 AaD c cs cells.toList→ps.length=vs.length→(∀ i (h1 : i<ps.length) (h2 : i<vs.length),ps[i].1=vs[i].1∧Rep c ps[i].2 vs[i].2)→Aj2 P t cs ps=some cs' →
 ∃ cells',Instr.fill place cells vs=some cells'∧AaD c cs' cells'.toList
 | [],[],cells,cs,cs',hr,_,_,h=>by
  simp only [Aj2,Option.some.injEq] at h; subst h
  exact ⟨cells,rfl,hr⟩
 | [],_::_,_,_,_,_,hl,_,_=>by simp at hl
 | _::_,[],_,_,_,_,hl,_,_=>by simp at hl
 | (f,x)::ps,(f',v)::vs,cells,cs,cs',hr,hl,hrel,h=>by
  have h0:=hrel 0 (by simp) (by simp)
  simp only [List.getElem_cons_zero] at h0
  obtain ⟨rfl,hx⟩:=h0
  simp only [Aj2] at h
  split at h
  ·rename_i off size hpl
   split at h
   ·rename_i hcond
    obtain ⟨e1,e2,e3⟩:=hcond
    have hxr:=Ag3 e2 hx
    have hxl:=hxr.length
    have hcl:=hr.length
    simp only [Array.length_toList] at hxl hcl
    have hfc:=Aj1 v off cells (by omega)
    have hset : AaD c (setR cs off x.cells) (cells.toList.take off++v.cells.toList++cells.toList.drop (off+v.cells.size)):=by
     rw [AfC _ _ _ (by omega),show off+x.cells.length=off+v.cells.size by omega]
     exact ((hr.take off).append hxr).append (hr.drop _)
    rw [← hfc] at hset
    obtain ⟨cells',g1,g2⟩:=Ak4 hp ps vs _ _ cs' hset (by simpa using hl) (fun i h1 h2=>by
     have:=hrel (i+1) (by simpa using h1) (by simpa using h2)
     simpa using this) h
    refine ⟨cells',?_,g2⟩
    simp only [Instr.fill,hp f _ hpl]
    rw [if_neg (by simp; omega)]
    exact g1
   ·cases h
  ·cases h
def AkB (P : Program) (t : TypeId) (parts : List (Nat×AV)) : Option (List AV) :=
 match AbW P t with
 | some z=>Aj2 P t z parts
 | none=>none
theorem Apo {P : Program} {o : Oper} {s : Nat→AV} {H : Aac} {N : Nat} (hc : AaY o=true) (t : TypeId) (parts : Array (Nat×Operand)) (ho : o.op = .build t parts) (hf : Abp P t=true) (cs : List AV)
 (hb : AkB P t (parts.toList.map fun p=>(p.1,ev s p.2))=some cs) : Aao P o s H N (.agg cs) H N [] [] :=
 Aao.pure hc fun ρ w c hh hrep=>by
  unfold AkB at hb
  split at hb
  ·rename_i z hz
   obtain ⟨i,v,hi,hzv,hok,hsz,rfl⟩:=AfA hz
   unfold Abp at hf
   split at hf
   ·rename_i fs hu
    have hpl : ∀ l : List Field,(l.all fun g=>(P.info? g.type).isSome)=true→(l.mapM (m:=Sem) fun (f : Field)=>do pure (f.offset,← sizeOf f.type)).run P w = .ok (l.map fun (g : Field)=>(g.offset,((P.info? g.type).map (·.size)).getD 0)) w:=by
     intro l
     induction l with
     | nil=>intro _; simp
     | cons g l ih =>
      intro h
      simp only [List.all_cons,Bool.and_eq_true] at h
      obtain ⟨ig,hig⟩:=Option.isSome_iff_exists.1 h.1
      have:=ih h.2
      simp only [List.mapM_cons,Sem.run_bind,Sem.run_pure,Result.andThen_ok,sizeOf,typeInfo,run_program,hig,List.map_cons,Option.map_some,Option.getD_some] at this ⊢
      rw [this]
      simp
    have hm:=hpl fs.toList hf
    obtain ⟨cells',h1,h2⟩:=Ak4 (c:=c) (place:=fun j=>((fs.toList.map fun (g : Field)=>(g.offset,((P.info? g.type).map (·.size)).getD 0)).toArray)[j]?) (P:=P) (t:=t) (by
     intro f p hp
     unfold Aau at hp
     rw [hu] at hp
     simp only at hp
     cases hg : fs[f]? with
     | none=>rw [hg] at hp; cases hp
     | some g =>
      rw [hg] at hp
      simp only [Option.bind_some] at hp
      cases hig : P.info? g.type with
      | none=>rw [hig] at hp; cases hp
      | some ig =>
       rw [hig] at hp
       simp only [Option.map_some,Option.some.injEq] at hp
       subst hp
       simp [hg,hig]) (parts.toList.map fun p=>(p.1,ev s p.2)) (parts.toList.map fun p=>(p.1,ρ p.2)) v.cells _ cs (Af3 c _ (Afi hok)) (by simp)
     (fun j h1 h2=>by
      simp only [List.getElem_map]
      refine ⟨trivial,hrep _ ?_⟩
      simp only [ho,Op.operands,List.mem_map]
      exact ⟨_,List.getElem_mem _,rfl⟩) hb
    refine ⟨.agg cells',?_,by simp only [Rep]; exact ⟨_,rfl,h2⟩⟩
    have hparts : (parts.map fun (p : Nat×Operand)=>(p.1,ρ p.2)).toList=parts.toList.map fun p=>(p.1,ρ p.2):=by simp
    simp only [execOp,ho,Instr.build,Sem.run_bind,zeroValue,typeInfo,run_program,hi,Sem.run_pure,Result.andThen_ok,hzv,run_underlying hu,Array.mapM_eq_mapM_toList,hm,Sem.run_map,hparts,h1]
   ·rename_i n e hu
    obtain ⟨ie,hie⟩:=Option.isSome_iff_exists.1 hf
    obtain ⟨cells',h1,h2⟩:=Ak4 (c:=c) (place:=fun j=>some (j*ie.size,ie.size)) (P:=P) (t:=t) (by
     intro f p hp
     unfold Aau at hp
     rw [hu] at hp
     simp only [hie,Option.map_some] at hp
     split at hp
     ·exact hp
     ·cases hp) (parts.toList.map fun p=>(p.1,ev s p.2)) (parts.toList.map fun p=>(p.1,ρ p.2)) v.cells _ cs (Af3 c _ (Afi hok)) (by simp)
     (fun j h1 h2=>by
      simp only [List.getElem_map]
      refine ⟨trivial,hrep _ ?_⟩
      simp only [ho,Op.operands,List.mem_map]
      exact ⟨_,List.getElem_mem _,rfl⟩) hb
    refine ⟨.agg cells',?_,by simp only [Rep]; exact ⟨_,rfl,h2⟩⟩
    have hparts : (parts.map fun (p : Nat×Operand)=>(p.1,ρ p.2)).toList=parts.toList.map fun p=>(p.1,ρ p.2):=by simp
    simp only [execOp,ho,Instr.build,Sem.run_bind,zeroValue,typeInfo,run_program,hi,Sem.run_pure,Result.andThen_ok,hzv,run_underlying hu,sizeOf,hie,hparts,h1]
   ·cases hf
  ·cases hb
end Go.Abs
