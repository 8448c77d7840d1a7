import Derived.Test.YthiodjlppahmkaaGreatExtLay12
import Derived.MapKept
import Derived.Laws.RangeString
set_option linter.unusedVariables false
set_option linter.unusedSimpArgs false
namespace Go.Abs
open Go.RowKit (Below)
def AcC (P : Program) (t : TypeId) (f : Nat) : Option (Nat×Option Nat) :=
 match P.underlying t with
 | some (.struct fs) =>
  match fs[f]? with
  | some g=>match Ab1 P g.type with
   | some false=>some (g.offset,none)
   | some true=>(Aa8 P g.type).map fun n=>(g.offset,some n)
   | none=>none
  | none=>none
 | _=>none
def AiZ (cs : List AV) : Option (Nat×Option Nat)→Option AV
 | some (d,none)=>cs[d]?
 | some (d,some n)=>if d+n≤cs.length then some (.agg ((cs.drop d).take n)) else none
 | none=>none
theorem Apl {P : Program} {o : Oper} {s : Nat→AV} {H : Aac} {N : Nat} (hc : AaY o=true) (t : TypeId) (y : Operand) (f : Nat) (ho : o.op = .field t y f) (cs : List AV) (hy : ev s y = .agg cs) (x : AV)
 (hx : AiZ cs (AcC P t f)=some x) : Aao P o s H N x H N [] [] :=
 Aao.pure hc fun ρ w c hh hrep=>by
  have h1:=hrep y (by simp [ho,Op.operands])
  rw [hy] at h1
  simp only [Rep] at h1
  obtain ⟨vs,hv,hr⟩:=h1
  have hl:=hr.length
  unfold AcC at hx
  split at hx
  ·rename_i fs hu
   split at hx
   ·rename_i g hg
    split at hx
    ·rename_i hta
     simp only [AiZ] at hx
     obtain ⟨hlt,rfl⟩:=List.getElem?_eq_some_iff.1 hx
     have hlt' : g.offset<vs.size:=by simp at hl; omega
     refine ⟨vs[g.offset],?_,?_⟩
     ·simp [execOp,ho,hv,Instr.field,run_underlying hu,hg,asAgg,part,Afe hta,hlt']
     ·have:=hr.get g.offset hlt (by simpa using hlt')
      simpa using this
    ·rename_i hta
     cases hts : Aa8 P g.type with
     | none=>simp [hts,AiZ] at hx
     | some n =>
      simp only [hts,Option.map_some,AiZ] at hx
      split at hx
      ·rename_i hn
       simp only [Option.some.injEq] at hx
       subst hx
       refine ⟨.agg (vs.extract g.offset (g.offset+n)),?_,?_⟩
       ·simp [execOp,ho,hv,Instr.field,run_underlying hu,hg,asAgg,part,Afe hta,Ad8 hts]
       ·simp only [Rep]
        refine ⟨_,rfl,?_⟩
        have:=(hr.drop g.offset).take n
        rw [Array.toList_extract]
        have e : (vs.toList.extract g.offset (g.offset+n))=(vs.toList.drop g.offset).take n:=by
         simp [List.extract]
        rw [e]; exact this
      ·cases hx
    ·simp [AiZ] at hx
   ·simp [AiZ] at hx
  ·simp [AiZ] at hx
def Air (es : List (AV×AV)) (k : AV) : Option Nat:=es.findIdx? fun p=>Ams k p.1
def Ah4 (es : List (AV×AV)) (k : AV) : Option AV:=(Air es k).bind fun j=>es[j]?.map (·.2)
def Aeo (es : List (AV×AV)) (k v : AV) : List (AV×AV) :=
 match Air es k with
 | some j=>es.set j (k,v)
 | none=>es++[(k,v)]
def AfE (P : Program) (t : TypeId) : Option (Abe×AV) :=
 match P.underlying t with
 | some (.map k e) =>
  match AgI P k,P.info? e with
  | some kd,some i=>match i.zero with
   | some z=>if okV z=true then some (kd,ofV z) else none
   | none=>none
  | _,_=>none
 | _=>none
theorem Agd {P : Program} {t : TypeId} {kd : Abe} (h : AgI P t=some kd) : ∃ d,P.underlying t=some d∧∀ (c : Cx) (x : AV) (v : Value),kd.has x=true→Rep c x v→MapKept.IsKey d v:=by
 unfold AgI at h
 split at h <;> simp only [Option.some.injEq,reduceCtorEq] at h
 all_goals
  rename_i hu
  subst h
  refine ⟨_,hu,fun c x v hx hr=>?_⟩
  cases x <;> simp only [Abe.has,Bool.false_eq_true,beq_iff_eq] at hx
  all_goals
   simp only [Rep] at hr
   first
    | (subst hr; simp [MapKept.IsKey])
    | (obtain ⟨rfl,_⟩:=hr; simp [MapKept.IsKey,hx])
theorem ArP {kd : Abe} {x y : AV} (hx : kd.has x=true) (hy : kd.has y=true) {c : Cx} {v u : Value} (rx : Rep c x v) (ry : Rep c y u) : Ams x y=true↔v=u:=by
 cases kd <;> cases x <;> simp only [Abe.has,Bool.false_eq_true,beq_iff_eq] at hx <;> cases y <;> simp only [Abe.has,Bool.false_eq_true,beq_iff_eq] at hy
 ·simp only [Rep] at rx ry; subst rx ry; simp [Ams]
 ·simp only [Rep] at rx ry
  obtain ⟨rfl,_⟩:=rx; obtain ⟨rfl,_⟩:=ry
  subst hx hy
  simp [Ams]
 ·simp only [Rep] at rx ry
  obtain ⟨rfl,hx1⟩:=rx; obtain ⟨rfl,hy1⟩:=ry
  clear hx1 hy1
  rename_i a b
  simp only [Ams,AkS,beq_iff_eq,Value.string.injEq]
  constructor
  ·intro h
   obtain ⟨⟨a⟩⟩:=a; obtain ⟨⟨b⟩⟩:=b
   simp at h; rw [h]
  ·intro h; rw [h]
theorem AgC {kd : Abe} {d : TypeDesc} (hd : ∀ (c : Cx) (x : AV) (v : Value),kd.has x=true→Rep c x v→MapKept.IsKey d v) {c : Cx} {k : AV} {kv : Value} (hk : kd.has k=true) (rk : Rep c k kv) :
 ∀ (es : List (AV×AV)) (l : List MapEntry) (i : Nat),l.length=es.length→(∀ j (h1 : j<l.length) (h2 : j<es.length),Rep c es[j].1 l[j].key∧Rep c es[j].2 l[j].val)→(es.all fun p=>kd.has p.1)=true →
  (Air es k=none∧Instr.findNow d kv l i=some none)∨∃ j e,Air es k=some j∧j<es.length∧l[j]? = some e∧e.key=kv∧Instr.findNow d kv l i=some (some (i+j,e.val))
 | [],[],_,_,_,_ => .inl ⟨rfl,rfl⟩
 | [],_::_,_,h,_,_=>by simp at h
 | _::_,[],_,h,_,_=>by simp at h
 | p::es,e::l,i,hl,hr,ha=>by
  simp only [List.all_cons,Bool.and_eq_true] at ha
  have h0:=hr 0 (by simp) (by simp)
  simp only [List.getElem_cons_zero] at h0
  obtain ⟨r,hsn,hiff⟩:=MapKept.sameNow_of_keys (hd c k kv hk rk) (hd c p.1 e.key ha.1 h0.1)
  have hsc:=ArP hk ha.1 rk h0.1
  cases hrb : r with
  | true =>
   have e1:=hiff.1 hrb
   refine .inr ⟨0,e,?_,by simp,rfl,e1.symm,by simp [Instr.findNow,hsn,hrb]⟩
   simp [Air,List.findIdx?_cons,hsc.2 e1]
  | false =>
   have e1 : ¬ kv=e.key:=fun q=>by have:=hiff.2 q; rw [hrb] at this; cases this
   have e2 : Ams k p.1=false:=by
    cases hh : Ams k p.1 with
    | false=>rfl
    | true=>exact absurd (hsc.1 hh) e1
   have ih:=AgC hd hk rk es l (i+1) (by simpa using hl) (fun j h1 h2=>by
    have:=hr (j+1) (by simpa using h1) (by simpa using h2)
    simpa using this) ha.2
   rcases ih with ⟨h1,h2⟩ | ⟨j,e',h1,h2,h3,h4,h5⟩
   ·left
    refine ⟨?_,by simp [Instr.findNow,hsn,hrb,h2]⟩
    unfold Air at h1 ⊢
    simp [List.findIdx?_cons,e2,h1]
   ·right
    refine ⟨j+1,e',?_,by simpa using h2,by simpa using h3,h4,?_⟩
    ·unfold Air at h1 ⊢
     simp [List.findIdx?_cons,e2,h1]
    ·simp [Instr.findNow,hsn,hrb,h5]; omega
theorem Ail {c : Cx} {es : List (AV×AV)} {b base sz : Nat} (h : AbQ c (.mp es) b base sz) : ∃ ents clock,c.h[b]? = some (.map ents clock)∧ents.toList.length=es.length ∧
 ∀ j (h1 : j<ents.toList.length) (h2 : j<es.length),Rep c es[j].1 ents.toList[j].key∧Rep c es[j].2 ents.toList[j].val:=by
 obtain ⟨ents,clock,h1,h2,h3⟩:=h
 exact ⟨ents,clock,h1,by simpa using h2,fun j k1 k2=>by simpa using h3 j (by simpa using k1) k2⟩
theorem Arj {c : Cx} {H : Aac} {w : World} (h : AcX c H w) {id : Nat} {es : List (AV×AV)} (ho : H id=some (.mp es)) {v : Value} (hv : Rep c (.map id) v) :
 ∃ b base sz,v = .map (some b)∧AbQ c (.mp es) b base sz:=by
 obtain ⟨b,base,sz,hl,hor⟩:=h.live_of ho (by simp)
 simp only [Rep] at hv
 exact ⟨b,base,sz,hv.2.2 b base sz hl,hor⟩
theorem Aog {P : Program} {o : Oper} {s : Nat→AV} {H : Aac} {N : Nat} (hc : AaY o=true) (t : TypeId) (y z : Operand) (ok : Bool) (ho : o.op = .lookup t y z ok) (id : Nat) (hy : ev s y = .map id) (hid : id<N)
 (es : List (AV×AV)) (hob : H id=some (.mp es)) (kd : Abe) (zv : AV) (ht : AfE P t=some (kd,zv)) (hk : kd.has (ev s z)=true) (ha : (es.all fun p=>kd.has p.1)=true) :
 Aao P o s H N (if ok=true then .tup [(Ah4 es (ev s z)).getD zv,.bool (Ah4 es (ev s z)).isSome] else (Ah4 es (ev s z)).getD zv) H N [id] [] :=
 Aao.read [id] (by simpa using hid) fun n c s1 H1 a w hrel hu hT=>by
  have r1:=Aaj hrel hu hc (x:=y) (by simp [ho,Op.operands])
  have r2:=Aaj hrel hu hc (x:=z) (by simp [ho,Op.operands])
  rw [hy] at r1
  obtain ⟨b,base,sz,hv,hor⟩:=Arj hrel.hr ((hT id (by simp)).trans hob) r1
  obtain ⟨ents,clock,e1,e2,e3⟩:=Ail hor
  rw [hrel.hr.heap] at e1
  unfold AfE at ht
  split at ht
  ·rename_i kt et hm
   split at ht
   ·rename_i kd' i hkd hi
    split at ht
    ·rename_i z0 hz
     split at ht
     ·rename_i hokz
      simp only [Option.some.injEq,Prod.mk.injEq] at ht
      obtain ⟨rfl,rfl⟩:=ht
      obtain ⟨d,hd,hkey⟩:=Agd hkd
      have hzero : (zeroValue et).run P w = .ok z0 w:=by simp [zeroValue,typeInfo,hi,hz]
      rcases AgC hkey hk r2 es ents.toList 0 e2 e3 ha with ⟨f1,f2⟩ | ⟨j,e,f1,f2,f3,f4,f5⟩
      ·have hg : Ah4 es (ev s z)=none:=by simp [Ah4,f1]
       rw [hg]
       refine ⟨if ok=true then .tuple #[z0,.bool false] else z0,?_,?_⟩
       ·simp [execOp,ho,hv,Instr.lookup,run_underlying hm,MapKept.run_getObj_map e1,MapKept.run_checkKey hd (hkey c _ _ hk r2),MapKept.run_findKey hd f2,hzero]
       ·cases ok
        ·simpa using AnA c z0 hokz
        ·simp only [Rep,if_true,Option.getD_none,Option.isSome_none]
         exact ⟨_,rfl,by simpa [AaD,Rep] using AnA c z0 hokz⟩
      ·have hj : j<ents.toList.length:=by omega
       have hg : Ah4 es (ev s z)=some es[j].2:=by simp [Ah4,f1,List.getElem?_eq_getElem f2]
       rw [hg]
       obtain ⟨_,rfl⟩:=List.getElem?_eq_some_iff.1 f3
       have hval:=(e3 j hj f2).2
       rw [Nat.zero_add] at f5
       refine ⟨if ok=true then .tuple #[ents.toList[j].val,.bool true] else ents.toList[j].val,?_,?_⟩
       ·simp only [execOp,ho,hv,Instr.lookup,Sem.run_bind,run_underlying hm,MapKept.run_getObj_map e1,MapKept.run_checkKey hd (hkey c _ _ hk r2),MapKept.run_findKey hd f5,Result.andThen_ok,Sem.run_pure]
       ·cases ok
        ·simpa using hval
        ·simp only [Rep,if_true,Option.getD_some,Option.isSome_some]
         exact ⟨_,rfl,by simpa [AaD,Rep] using hval⟩
     ·cases ht
    ·cases ht
   ·cases ht
  ·cases ht
theorem Aod {c : Cx} {id b base sz : Nat} (hl : c.ι id = .live b base sz) : Rep c (.map id) (.map (some b)):=by
 simp only [Rep]
 refine ⟨by simp [hl],rfl,fun b' base' sz' h=>?_⟩
 rw [hl] at h; cases h; rfl
theorem Am1 {P : Program} {o : Oper} {s : Nat→AV} {H : Aac} {N : Nat} (t : TypeId) (ho : o.op = .makeMap t none) : Aao P o s H N (.map N) (upd H N (some (.mp []))) (N+1) [] [N] :=
 Aao.new (.mp []) [] (by simp) fun n c s1 H1 a w hrel hu hT hun=>by
  refine ⟨.map (some w.heap.size),.map #[] 0,w.alloc (.map #[] 0),0,0,?_,rfl,rfl,rfl,rfl,fun L=>⟨?_,?_⟩⟩
  ·have hm : (Instr.makeMap t none).run P w = .ok (.map (some w.heap.size)) (w.alloc (.map #[] 0)):=rfl
   simp [execOp,ho,hm]
  ·exact ⟨#[],0,by simp,by simp,fun j h1=>by simp at h1⟩
  ·exact Aod (base:=0) (sz:=0) (by simp)
theorem Ag2 {P : Program} {o : Oper} {s : Nat→AV} {H : Aac} {N : Nat} (hc : AaY o=true) (t : TypeId) (y z v : Operand) (ho : o.op = .mapUpdate t y z v∨o.op = .insert t y z v) (id : Nat) (hy : ev s y = .map id) (hid : id<N)
 (es : List (AV×AV)) (hob : H id=some (.mp es)) (kd : Abe) (zv : AV) (ht : AfE P t=some (kd,zv)) (hk : kd.has (ev s z)=true) (ha : (es.all fun p=>kd.has p.1)=true) :
 Aao P o s H N .skip (upd H id (some (.mp (Aeo es (ev s z) (ev s v))))) N [id] [id] :=
 Aao.write id (.mp es) _ hid hob (by simp) .skip [id] (by simpa using hid) (by simp) fun n c s1 H1 a w hrel hu hT b base sz hl hor=>by
  have r1:=Aaj hrel hu hc (x:=y) (by rcases ho with ho | ho <;> simp [ho,Op.operands])
  have r2:=Aaj hrel hu hc (x:=z) (by rcases ho with ho | ho <;> simp [ho,Op.operands])
  have r3:=Aaj hrel hu hc (x:=v) (by rcases ho with ho | ho <;> simp [ho,Op.operands])
  rw [hy] at r1
  simp only [Rep] at r1
  have hv:=r1.2.2 b base sz hl
  obtain ⟨ents,clock,e1,e2,e3⟩:=Ail hor
  rw [hrel.hr.heap] at e1
  unfold AfE at ht
  split at ht
  ·rename_i kt et hm
   split at ht
   ·rename_i kd' i hkd hi
    split at ht
    ·rename_i z0 hz
     split at ht
     ·simp only [Option.some.injEq,Prod.mk.injEq] at ht
      obtain ⟨rfl,rfl⟩:=ht
      obtain ⟨d,hd,hkey⟩:=Agd hkd
      have hkk:=hkey c _ _ hk r2
      rcases AgC hkey hk r2 es ents.toList 0 e2 e3 ha with ⟨f1,f2⟩ | ⟨j,e,f1,f2,f3,f4,f5⟩
      ·refine ⟨{ w with heap:=w.heap.setIfInBounds b (.map (ents.push { key:=a.eval z,val:=a.eval v,born:=clock }) (clock+1)) },.skip,_,.inl ⟨rfl,rfl⟩,?_,?_,?_,rfl,rfl,rfl,fun L=>⟨?_,by simp [Rep]⟩⟩
       ·rcases ho with ho | ho <;> simp only [execOp,ho,hv,Instr.mapUpdate,Sem.run_bind,run_underlying hm,MapKept.run_getObj_map e1,MapKept.run_checkKey hd hkk,MapKept.run_findKey hd f2,MapKept.run_setObj_map _ e1,Result.andThen_ok,Sem.run_pure]
       ·simp
       ·exact fun k hne=>(MapKept.heap_set e1).2 k hne
       ·refine ⟨_,_,(MapKept.heap_set e1).1,?_,?_⟩
        ·simp only [Aeo,f1,Array.size_push,List.length_append,List.length_cons,List.length_nil]
         simp at e2; omega
        ·intro j h1 h2
         simp only [Aeo,f1] at h2 ⊢
         simp only [Array.size_push] at h1
         have e2' : ents.size=es.length:=by simpa using e2
         rcases Nat.lt_or_ge j es.length with hj | hj
         ·have:=e3 j (by simpa using by omega) hj
          simp only [Array.getElem_toList] at this
          rw [Array.getElem_push_lt (by omega),List.getElem_append_left hj]
          exact ⟨this.1.mono L,this.2.mono L⟩
         ·have ej : j=es.length:=by omega
          subst ej
          have : (ents.push { key:=a.eval z,val:=a.eval v,born:=clock })[es.length]'(by simp; omega) = { key:=a.eval z,val:=a.eval v,born:=clock } := by
           rw [Array.getElem_push]; simp [e2']
          rw [this]
          simp only [List.getElem_append_right (Nat.le_refl _),Nat.sub_self,List.getElem_cons_zero]
          exact ⟨r2.mono L,r3.mono L⟩
      ·have hj : ents[j]? = some e:=by simpa using f3
       rw [Nat.zero_add] at f5
       have hjl : j<ents.size:=(Array.getElem?_eq_some_iff.1 hj).1
       refine ⟨{ w with heap:=w.heap.setIfInBounds b (.map (ents.modify j fun e => { e with key:=a.eval z,val:=a.eval v }) clock) },.skip,_,.inl ⟨rfl,rfl⟩,?_,?_,?_,rfl,rfl,rfl,fun L=>⟨?_,by simp [Rep]⟩⟩
       ·rcases ho with ho | ho <;> simp only [execOp,ho,hv,Instr.mapUpdate,Sem.run_bind,run_underlying hm,MapKept.run_getObj_map e1,MapKept.run_checkKey hd hkk,MapKept.run_findKey hd f5,hj,Option.map_some,Option.getD_some,f4,MapKept.run_keyThatStays hkk,MapKept.run_setObj_map _ e1,Result.andThen_ok,Sem.run_pure]
       ·simp
       ·exact fun k hne=>(MapKept.heap_set e1).2 k hne
       ·have e2' : ents.size=es.length:=by simpa using e2
        refine ⟨_,_,(MapKept.heap_set e1).1,?_,?_⟩
        ·simp [Aeo,f1,e2']
        ·intro i' h1 h2
         simp only [Aeo,f1,List.length_set] at h2 ⊢
         rw [Array.getElem_modify,List.getElem_set]
         by_cases hij : j=i'
         ·subst hij
          simp only [if_true]
          exact ⟨r2.mono L,r3.mono L⟩
         ·simp only [if_neg hij]
          have:=e3 i' (by simpa using by omega) h2
          simp only [Array.getElem_toList] at this
          exact ⟨this.1.mono L,this.2.mono L⟩
     ·cases ht
    ·cases ht
   ·cases ht
  ·cases ht
theorem Aph {P : Program} {o : Oper} {s : Nat→AV} {H : Aac} {N : Nat} (hc : AaY o=true) (t : TypeId) (y : Operand) (ho : o.op = .range t y) (b : ByteArray) (hy : ev s y = .str b) (ht : P.underlying t=some .string) : Aao P o s H N (.ptr N 0) (upd H N (some (.it b 0))) (N+1) [] [N] :=
 Aao.new (.it b 0) [] (by simp) fun n c s1 H1 a w hrel hu hT hun=>by
  have r1:=Aaj hrel hu hc (x:=y) (by simp [ho,Op.operands])
  rw [hy] at r1; simp only [Rep] at r1
  refine ⟨.pointer (some ⟨w.heap.size,0,none⟩),.stringIter b 0,w.iter b 0,0,0,?_,rfl,rfl,rfl,rfl,fun L=>⟨⟨rfl,r1.2,by simp⟩,?_⟩⟩
  ·simp [execOp,ho,r1.1,run_range_string w t b ht]
  ·simp only [Rep]
   refine ⟨by simp,rfl,fun b' base sz h=>?_⟩
   simp only [AbR,Aei.live.injEq] at h
   obtain ⟨rfl,rfl,_⟩:=h; rfl
theorem Akb {P : Program} {w : World} {r p : Nat} {b : ByteArray} {ty : TypeId} (hb : w.heap[r]? = some (.stringIter b p)) (hp : p<b.size) (ha : (b[p]'hp).toNat<128) :
 (Instr.next (.pointer (some ⟨r,0,none⟩)) true ty).run P w = .ok (.tuple #[.bool true,.int .i64 p,.int .i32 (b[p]'hp).toNat]) { w with heap:=w.heap.setIfInBounds r (.stringIter b (p+1)) } := by
 simp only [Instr.next,getObj,setObj,Sem.run_bind,Sem.run,hb,Result.andThen,hp,if_true,decode_ascii b p hp ha]
 simp [goInt,Sem.run,hb]
theorem Akc {P : Program} {w : World} {r p : Nat} {b : ByteArray} {ty : TypeId} (hb : w.heap[r]? = some (.stringIter b p)) (hp : ¬ p<b.size) :
 (Instr.next (.pointer (some ⟨r,0,none⟩)) true ty).run P w = .ok (.tuple #[.bool false]) w:=by
 simp [Instr.next,getObj,Sem.run,hb,hp]
theorem ArY {P : Program} {o : Oper} {s : Nat→AV} {H : Aac} {N : Nat} (hc : AaY o=true) (y : Operand) (ho : o.op = .next y true) (id : Nat) (hy : ev s y = .ptr id 0) (hid : id<N) (b : ByteArray) (p : Nat) (hob : H id=some (.it b p))
 (hp : p<b.size) (ha : (b[p]'hp).toNat<128) : Aao P o s H N (.tup [.bool true,.int .i64 p,.int .i32 (b[p]'hp).toNat]) (upd H id (some (.it b (p+1)))) N [id] [id] :=
 Aao.write id (.it b p) _ hid hob (by simp) _ [id] (by simpa using hid) (by simp) fun n c s1 H1 a w hrel hu hT b' base sz hl hor=>by
  have r1:=Aaj hrel hu hc (x:=y) (by simp [ho,Op.operands])
  rw [hy] at r1
  have hv:=Ab3 r1 hl
  obtain ⟨rfl,hm,hb⟩:=hor
  rw [hrel.hr.heap] at hb
  have hlt:=(Array.getElem?_eq_some_iff.1 hb).1
  refine ⟨{ w with heap:=w.heap.setIfInBounds b' (.stringIter b (p+1)) },.value (.tuple #[.bool true,.int .i64 p,.int .i32 (b[p]'hp).toNat]),.tuple #[.bool true,.int .i64 p,.int .i32 (b[p]'hp).toNat],.inr rfl,?_,by simp,?_,rfl,rfl,rfl,fun L=>⟨⟨rfl,hm,?_⟩,?_⟩⟩
  ·simp [execOp,ho,hv,Akb hb hp ha]
  ·intro k hk
   simp only []
   rw [Array.getElem?_setIfInBounds_ne (fun e=>hk e.symm)]
  ·simp [hlt]
  ·simp only [Rep]
   refine ⟨_,rfl,?_⟩
   have hmx : maxLen≤9223372036854775807:=by unfold maxLen; omega
   simp only [AaD,Rep]
   refine ⟨_,_,rfl,rfl,_,_,rfl,⟨rfl,?_⟩,_,_,rfl,⟨rfl,?_⟩,rfl⟩
   ·constructor <;> simp [IntKind.min,IntKind.max,IntKind.bits,IntKind.signed] <;> omega
   ·constructor <;> simp [IntKind.min,IntKind.max,IntKind.bits,IntKind.signed] <;> omega
theorem Ald {P : Program} {o : Oper} {s : Nat→AV} {H : Aac} {N : Nat} (hc : AaY o=true) (y : Operand) (ho : o.op = .next y true) (id : Nat) (hy : ev s y = .ptr id 0) (hid : id<N) (b : ByteArray) (p : Nat) (hob : H id=some (.it b p))
 (hp : ¬ p<b.size) : Aao P o s H N (.tup [.bool false]) H N [id] [] :=
 Aao.read [id] (by simpa using hid) fun n c s1 H1 a w hrel hu hT=>by
  have r1:=Aaj hrel hu hc (x:=y) (by simp [ho,Op.operands])
  rw [hy] at r1
  obtain ⟨b',base,sz,hl,hor⟩:=hrel.hr.live_of ((hT id (by simp)).trans hob) (by simp)
  have hv:=Ab3 r1 hl
  obtain ⟨rfl,hm,hb⟩:=hor
  rw [hrel.hr.heap] at hb
  refine ⟨.tuple #[.bool false],?_,?_⟩
  ·simp [execOp,ho,hv,Akc hb hp]
  ·simp [Rep,AaD]
end Go.Abs
