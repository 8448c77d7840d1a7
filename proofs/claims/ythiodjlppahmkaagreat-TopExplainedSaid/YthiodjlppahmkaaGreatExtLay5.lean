import Derived.Test.YthiodjlppahmkaaGreatExtLay4
set_option linter.unusedVariables false
set_option linter.unusedSimpArgs false
namespace Go.Abs
open Go.RowKit (Below)
theorem Afw (b off j : Nat) : (⟨b,off,none⟩ : Addr).add j=⟨b,off+j,none⟩:=by
 unfold Addr.add; split <;> simp_all
theorem Ac3 {P : Program} {w : World} {b off : Nat} {vs : List Value} (h : Aaw w.heap b off vs) : (loadCells ⟨b,off,none⟩ vs.length).run P w = .ok vs.toArray w:=by
 refine run_loadCells_list w ⟨b,off,none⟩ vs fun j v hj=>?_
 obtain ⟨hlt,rfl⟩:=List.getElem?_eq_some_iff.1 hj
 rw [Afw,cell?_eq]
 exact h j hlt
theorem Agu (w : World) (b o k : Nat) (v : Value) (hk : k≠b) : (w.setCell ⟨b,o,none⟩ v).heap[k]? = w.heap[k]?:=by
 simp only [World.setCell,Array.getElem?_modify]
 rw [if_neg (by simpa using fun e=>hk e.symm)]
theorem AhV (w : World) (b o : Nat) (v : Value) {cur : Array Value} {T : TypeId} {fr : Nat×Nat} (h : w.heap[b]? = some (.cells cur T fr)) :
 (w.setCell ⟨b,o,none⟩ v).heap[b]? = some (.cells (cur.setIfInBounds o v) T fr):=by
 simp [World.setCell,Array.getElem?_modify,h]
theorem Aon {w : World} {b : Nat} {cur : Array Value} {T : TypeId} {fr : Nat×Nat} (h : w.heap[b]? = some (.cells cur T fr)) (hf : Ahn cur.size fr) {o : Nat} (ho : o<cur.size) : w.frozen? ⟨b,o,none⟩=false:=by
 have:=hf.2 o ho
 simp only [World.frozen?,h]
 simpa using this
structure Amf (w w' : World) (b : Nat) (cur : Array Value) (T : TypeId) (fr : Nat×Nat) (lo : Nat) (vs : List Value) : Prop where
 size : w'.heap.size=w.heap.size
 other : ∀ k,k≠b→w'.heap[k]? = w.heap[k]?
 block : ∃ cur',w'.heap[b]? = some (.cells cur' T fr)∧cur'.size=cur.size∧(∀ i (h : i<vs.length),cur'[lo+i]? = some vs[i])∧∀ j,(j<lo∨lo+vs.length≤j)→cur'[j]? = cur[j]?
 os : w'.os=w.os
 tape : w'.tape=w.tape
 output : w'.output=w.output
theorem Abx {P : Program} {b off : Nat} {T : TypeId} {fr : Nat×Nat} : ∀ (vs : List Value) (i : Nat) (cur : Array Value) (w : World),w.heap[b]? = some (.cells cur T fr)→Ahn cur.size fr →
 off+i+vs.length≤cur.size→(∀ v ∈ vs,v.oneCell'=true)→∃ w',(storeCells ⟨b,off,none⟩ vs i).run P w = .ok () w'∧Amf w w' b cur T fr (off+i) vs
 | [],i,cur,w,h,_,_,_=>⟨w,rfl,rfl,fun _ _=>rfl,⟨cur,h,rfl,fun _ h=>by simp at h,fun _ _=>rfl⟩,rfl,rfl,rfl⟩
 | v::vs,i,cur,w,h,hf,hl,h1=>by
  simp only [List.length_cons] at hl
  have hlt : off+i<cur.size:=by omega
  obtain ⟨w',hr,S⟩:=Abx (P:=P) (off:=off) vs (i+1) (cur.setIfInBounds (off+i) v) (w.setCell ⟨b,off+i,none⟩ v) (AhV w b (off+i) v h) (by simpa using hf) (by simp; omega) (fun x hx=>h1 x (by simp [hx]))
  have hc : w.cell? ⟨b,off+i,none⟩=some cur[off+i]:=by rw [cell?_eq]; simp [Aa6,h,hlt]
  refine ⟨w',?_,?_⟩
  ·simp only [storeCells,Sem.run_bind,Afw,run_store P w _ v .plain (h1 v (by simp)),hc,Aon h hf hlt,Result.andThen_ok,Bool.false_eq_true,if_false]
   exact hr
  ·obtain ⟨cur',e1,e2,e3,e4⟩:=S.block
   refine ⟨by rw [S.size]; simp,fun k hk=>(S.other k hk).trans (Agu w b (off+i) k v hk),⟨cur',e1,by simpa using e2,?_,?_⟩,S.os,S.tape,S.output⟩
   ·intro j hj
    cases j with
    | zero =>
     rw [Nat.add_zero,e4 (off+i) (.inl (by omega))]
     simp [hlt]
    | succ j =>
     have:=e3 j (by simpa using hj)
     rw [show off+(i+1)+j=off+i+(j+1) by omega] at this
     simpa using this
   ·intro j hj
    simp only [List.length_cons] at hj
    rw [e4 j (by omega),Array.getElem?_setIfInBounds_ne (by omega)]
def AeL (P : Program) (t : TypeId) (cs : List AV) : Option AV :=
 match Ab1 P t with
 | some false=>cs.head?
 | some true=>match Aa8 P t with
  | some n=>if n≤cs.length∧0<n then some (.agg (cs.take n)) else none
  | none=>none
 | none=>none
theorem Afe {P : Program} {w : World} {t : TypeId} {b : Bool} (h : Ab1 P t=some b) : (isAgg t).run P w = .ok b w:=by
 unfold Ab1 at h
 unfold isAgg
 cases hu : P.underlying t with
 | none=>rw [hu] at h; cases h
 | some d=>rw [hu] at h; cases d <;> simp_all [run_underlying hu]
theorem Ad8 {P : Program} {w : World} {t n : Nat} (h : Aa8 P t=some n) : (sizeOf t).run P w = .ok n w:=by
 unfold Aa8 at h
 cases hi : P.info? t with
 | none=>rw [hi] at h; cases h
 | some i=>rw [hi] at h; simp at h; simp [sizeOf,typeInfo,hi,h]
theorem Aej {P : Program} {w : World} {c : Cx} {t b off : Nat} {vs : List Value} {cs : List AV} {x : AV} (hc : Aaw w.heap b off vs) (hr : AaD c cs vs) (hx : AeL P t cs=some x) :
 ∃ v,(loadVar t ⟨b,off,none⟩).run P w = .ok v w∧Rep c x v:=by
 unfold AeL at hx
 cases hta : Ab1 P t with
 | none=>rw [hta] at hx; cases hx
 | some ag =>
  rw [hta] at hx
  cases ag with
  | false =>
   simp only at hx
   cases cs with
   | nil=>cases hx
   | cons y cs =>
    simp only [List.head?_cons,Option.some.injEq] at hx
    subst hx
    simp only [AaD] at hr
    obtain ⟨v,rest,rfl,hv,_⟩:=hr
    have h0:=hc 0 (by simp)
    simp only [Nat.add_zero,List.getElem_cons_zero] at h0
    refine ⟨v,?_,hv⟩
    simp [loadVar,Afe hta,run_load,cell?_eq,h0]
  | true =>
   simp only at hx
   cases hs : Aa8 P t with
   | none=>rw [hs] at hx; cases hx
   | some n =>
    rw [hs] at hx
    simp only at hx
    split at hx
    ·rename_i hn
     simp only [Option.some.injEq] at hx
     subst hx
     have hlen:=hr.length
     obtain ⟨hn,hn0⟩:=hn
     have hn' : (vs.take n).length=n:=by simp; omega
     have:=Ac3 (P:=P) (hc.take n)
     rw [hn'] at this
     refine ⟨.agg (vs.take n).toArray,by simp [loadVar,Afe hta,Ad8 hs,this],?_⟩
     simp only [Rep]
     exact ⟨_,rfl,by simpa using hr.take n⟩
    ·cases hx
theorem Aoi {P : Program} {o : Oper} {s : Nat→AV} {H : Aac} {N : Nat} (hc : AaY o=true) (t : TypeId) (y : Operand) (ho : o.op = .load t y) (cs : List AV) (hy : ev s y = .cptr cs) (x : AV)
 (hx : AeL P t cs=some x) : Aao P o s H N x H N [] [] :=
 Aao.pure hc fun ρ w c hh hrep=>by
  have h1:=hrep y (by simp [ho,Op.operands])
  rw [hy] at h1
  simp only [Rep] at h1
  obtain ⟨b,off,vs,hv,_,hca,hr⟩:=h1
  rw [hh] at hca
  obtain ⟨v,hv2,hx2⟩:=Aej (P:=P) (t:=t) hca hr hx
  exact ⟨v,by simp [execOp,ho,hv,Instr.loadAt,Instr.sureAddr,hv2],hx2⟩
def AaZ.cs? : AaZ→Option (List AV)
 | .cells cs=>some cs
 | .grow cs=>some cs
 | .mp _=>none
 | .it _ _=>none
def AaZ.with (o : AaZ) (cs : List AV) : AaZ :=
 match o with
 | .grow _ => .grow cs
 | _ => .cells cs
theorem AbQ.cs {c : Cx} {o : AaZ} {cs : List AV} (ho : o.cs? = some cs) {b base sz : Nat} (h : AbQ c o b base sz) :
 ∃ cur T fr vs,c.h[b]? = some (.cells cur T fr)∧cur.size=sz∧Ahn sz fr∧base+cs.length≤sz∧AaD c cs vs∧Aaw c.h b base vs:=by
 cases o <;> simp only [AaZ.cs?,Option.some.injEq] at ho
 ·subst ho; exact h
 ·subst ho; exact h.2
 all_goals cases ho
theorem Ab3 {c : Cx} {id off b base sz : Nat} {v : Value} (h : Rep c (.ptr id off) v) (hl : c.ι id = .live b base sz) : v = .pointer (some ⟨b,base+off,none⟩):=by
 simp only [Rep] at h; exact h.2.2 b base sz hl
theorem Aoh {P : Program} {o : Oper} {s : Nat→AV} {H : Aac} {N : Nat} (hc : AaY o=true) (t : TypeId) (y : Operand) (ho : o.op = .load t y) (id off : Nat) (hy : ev s y = .ptr id off) (hid : id<N)
 (obj : AaZ) (hob : H id=some obj) (cs : List AV) (hcs : obj.cs? = some cs) (x : AV) (hx : AeL P t (cs.drop off)=some x) : Aao P o s H N x H N [id] [] :=
 Aao.read [id] (fun i h=>by simp at h; omega) fun n c s1 H1 a w hrel hu hT=>by
  have h1:=Aaj hrel hu hc (x:=y) (by simp [ho,Op.operands])
  rw [hy] at h1
  have hne : obj ≠ .grow []:=by
   intro e; subst e
   simp only [AaZ.cs?,Option.some.injEq] at hcs
   subst hcs
   unfold AeL at hx
   simp only [List.drop_nil,List.head?_nil,List.length_nil,Nat.le_zero_eq] at hx
   split at hx
   ·cases hx
   ·split at hx
    ·split at hx
     ·omega
     ·cases hx
    ·cases hx
   ·cases hx
  obtain ⟨b,base,sz,hl,hor⟩:=hrel.hr.live_of ((hT id (by simp)).trans hob) hne
  have hv:=Ab3 h1 hl
  obtain ⟨cur,T,fr,vs,e1,e2,e3,e4,e5,e6⟩:=hor.cs hcs
  have hh:=hrel.hr.heap
  rw [hh] at e6
  obtain ⟨v,hv2,hx2⟩:=Aej (P:=P) (w:=w) (t:=t) (e6.drop off) (e5.drop off) hx
  exact ⟨v,by simp [execOp,ho,hv,Instr.loadAt,Instr.sureAddr,hv2],hx2⟩
def setR (cs : List AV) (off : Nat) (xs : List AV) : List AV :=
 match xs with
 | [x]=>cs.set off x
 | xs=>cs.take off++xs++cs.drop (off+xs.length)
theorem AfC (cs : List AV) (off : Nat) (xs : List AV) (h : off+xs.length≤cs.length) : setR cs off xs=cs.take off++xs++cs.drop (off+xs.length):=by
 unfold setR
 split
 ·rename_i x
  simp only [List.length_singleton] at h ⊢
  rw [List.set_eq_take_append_cons_drop,if_pos (by omega)]
  simp
 ·rfl
theorem Agb (cs : List AV) (off : Nat) (xs : List AV) (h : off+xs.length≤cs.length) : (setR cs off xs).length=cs.length:=by
 rw [AfC cs off xs h]; simp; omega
def AV.fits (P : Program) (t : TypeId) (x : AV) : Bool :=
 (match x with | .agg cs=>cs.all AV.one | x=>x.one)&&(Aa8 P t==some x.cells.length)
theorem AoA {P : Program} {t : TypeId} {x : AV} (h : x.fits P t=true) {c : Cx} {v : Value} (hr : Rep c x v) :
 AaD c x.cells v.cells.toList∧(∀ u ∈ v.cells.toList,u.oneCell'=true)∧Aa8 P t=some v.cells.size∧v.cells.size=x.cells.length:=by
 simp only [AV.fits,Bool.and_eq_true,beq_iff_eq] at h
 obtain ⟨h1,h2⟩:=h
 have hk : AaD c x.cells v.cells.toList:=by
  refine hr.cells ?_
  cases x <;> first | exact .inr ⟨_,rfl⟩ | exact .inl h1
 have hl:=hk.length
 refine ⟨hk,?_,?_,?_⟩
 ·refine hk.oneCell ?_
  cases x <;> first | exact h1 | simpa [AV.cells] using h1
 ·rw [h2,← hl]; simp
 ·rw [← hl]; simp
theorem AlW {P : Program} {w : World} {t b off : Nat} {v : Value} (hs : Aa8 P t=some v.cells.size) {cur : Array Value} {T : TypeId} {fr : Nat×Nat} (hb : w.heap[b]? = some (.cells cur T fr))
 (hf : Ahn cur.size fr) (hl : off+v.cells.size≤cur.size) (h1 : ∀ u ∈ v.cells.toList,u.oneCell'=true) :
 ∃ w',(storeVar t ⟨b,off,none⟩ v).run P w = .ok () w'∧Amf w w' b cur T fr off v.cells.toList:=by
 obtain ⟨w',hr,S⟩:=Abx (P:=P) (off:=off) v.cells.toList 0 cur w hb hf (by simpa using hl) h1
 refine ⟨w',?_,S⟩
 simp [storeVar,Ad8 hs,hr]
theorem Afj {c : Cx} {w w1 : World} (hh : c.h=w.heap) {o : AaZ} {cs : List AV} (ho : o.cs? = some cs) {b base sz off : Nat} (hor : AbQ c o b base sz) {vs : List Value} {xs : List AV}
 (hl : off+xs.length≤cs.length) (hx : AaD c xs vs) {cur : Array Value} {T : TypeId} {fr : Nat×Nat} (hb : w.heap[b]? = some (.cells cur T fr)) (S : Amf w w1 b cur T fr (base+off) vs)
 (L : c.Le ⟨c.Z,c.ι,w1.heap⟩) : AbQ ⟨c.Z,c.ι,w1.heap⟩ (o.with (setR cs off xs)) b base sz:=by
 obtain ⟨cur0,T0,fr0,us,e1,e2,e3,e4,e5,e6⟩:=hor.cs ho
 rw [hh,hb] at e1
 cases e1
 obtain ⟨cur',k1,k2,k3,k4⟩:=S.block
 have hvl:=hx.length
 have hul:=e5.length
 cases o with
 | mp es=>cases ho
 | it _ _=>cases ho
 | cells cs0 =>
  simp only [AaZ.cs?,Option.some.injEq] at ho; subst ho
  refine ⟨cur',T,fr,us.take off++vs++us.drop (off+vs.length),k1,by omega,e3,by rw [Agb _ _ _ hl]; exact e4,?_,?_⟩
  ·rw [AfC _ _ _ hl,hvl]
   exact (((e5.take off).append hx).append (e5.drop _)).mono L
  ·exact key us vs off base cs0.length (by omega) (by omega) e6 k1 k3 k4 (hh ▸ hb)
 | grow cs0 =>
  simp only [AaZ.cs?,Option.some.injEq] at ho; subst ho
  refine ⟨?_,cur',T,fr,us.take off++vs++us.drop (off+vs.length),k1,by omega,e3,by rw [Agb _ _ _ hl]; exact e4,?_,?_⟩
  ·intro e
   have:=Agb cs0 off xs hl
   rw [e] at this
   have h0:=hor.1
   exact h0 (List.eq_nil_of_length_eq_zero (by simpa using this.symm))
  ·rw [AfC _ _ _ hl,hvl]
   exact (((e5.take off).append hx).append (e5.drop _)).mono L
  ·exact key us vs off base cs0.length (by omega) (by omega) e6 k1 k3 k4 (hh ▸ hb)
where
 key {h h' : Array Obj} {b : Nat} {cur cur' : Array Value} {T : TypeId} {fr : Nat×Nat} (us vs : List Value) (off base m : Nat) (hm : us.length=m) (hl : off+vs.length≤m) (e6 : Aaw h b base us) (k1 : h'[b]? = some (.cells cur' T fr))
  (k3 : ∀ i (h : i<vs.length),cur'[base+off+i]? = some vs[i]) (k4 : ∀ j,(j<base+off∨base+off+vs.length≤j)→cur'[j]? = cur[j]?) (hb : h[b]? = some (.cells cur T fr)) :
  Aaw h' b base (us.take off++vs++us.drop (off+vs.length)):=by
  have old : ∀ j (hj : j<us.length),(j<off∨off+vs.length≤j)→Aa6 h' b (base+j)=some us[j]:=by
   intro j hj hor
   have:=e6 j hj
   simp only [Aa6,hb,k1] at this ⊢
   rw [k4 (base+j) (by omega)]; exact this
  refine Aaw.append (Aaw.append ?_ ?_) ?_
  ·intro i hi
   simp only [List.length_take] at hi
   rw [List.getElem_take]
   exact old i (by omega) (.inl (by omega))
  ·intro i hi
   have:=k3 i hi
   simp only [Aa6,k1,List.length_take]
   rw [show base+min off us.length+i=base+off+i by omega]; exact this
  ·intro i hi
   simp only [List.length_drop] at hi
   rw [List.getElem_drop]
   have:=old (off+vs.length+i) (by omega) (.inr (by omega))
   simp only [List.length_append,List.length_take]
   rw [show base+(min off us.length+vs.length)+i=base+(off+vs.length+i) by omega]; exact this
theorem Apg {P : Program} {o : Oper} {s : Nat→AV} {H : Aac} {N : Nat} (hc : AaY o=true) (t : TypeId) (y z : Operand) (ho : o.op = .store t y z) (id off : Nat) (hy : ev s y = .ptr id off) (hid : id<N)
 (obj : AaZ) (hob : H id=some obj) (cs : List AV) (hcs : obj.cs? = some cs) (hfit : (ev s z).fits P t=true) (hl : off+(ev s z).cells.length≤cs.length) (hl0 : cs≠[]) :
 Aao P o s H N .skip (upd H id (some (obj.with (setR cs off (ev s z).cells)))) N [id] [id]:=by
 have hne : obj ≠ .grow []:=by
  intro e; subst e
  simp only [AaZ.cs?,Option.some.injEq] at hcs
  exact hl0 hcs.symm
 refine Aao.write id obj _ hid hob hne .skip [id] (fun i h=>by simp at h; omega) (by simp) fun n c s1 H1 a w hrel hu hT b base sz hlive hor=>?_
 have h1:=Aaj hrel hu hc (x:=y) (by simp [ho,Op.operands])
 have h2:=Aaj hrel hu hc (x:=z) (by simp [ho,Op.operands])
 rw [hy] at h1
 have hv:=Ab3 h1 hlive
 obtain ⟨f1,f2,f3,f4⟩:=AoA hfit h2
 obtain ⟨cur,T,fr,vs,e1,e2,e3,e4,e5,e6⟩:=hor.cs hcs
 have hh:=hrel.hr.heap
 rw [hh] at e1
 obtain ⟨w',hr,S⟩:=AlW (P:=P) (w:=w) (off:=base+off) f3 e1 (by rw [e2]; exact e3) (by omega) f2
 refine ⟨w',.skip,Go.undef,.inl ⟨rfl,rfl⟩,?_,S.size,S.other,S.os,S.tape,S.output,fun L=>⟨Afj hh hcs hor hl f1 e1 S L,by simp [Rep]⟩⟩
 simp [execOp,ho,hv,Instr.storeAt,Instr.sureAddr,hr]
theorem AkC (n : Nat) : Ahn n (0,0):=⟨Nat.le_refl _,fun o _ h=>by omega⟩
theorem Af4 {c : Cx} {w : World} {N : Nat} {xs : List AV} {cells : Array Value} {T : TypeId} (hr : AaD c xs cells.toList) (L : c.Le ⟨c.Z,upd c.ι N (.live w.heap.size 0 cells.size),w.heap.push (.cells cells T)⟩) :
 AbQ ⟨c.Z,upd c.ι N (.live w.heap.size 0 cells.size),w.heap.push (.cells cells T)⟩ (.cells xs) w.heap.size 0 cells.size:=by
 have hl:=hr.length
 refine ⟨cells,T,(0,0),cells.toList,by simp,rfl,AkC _,by simp at hl; omega,hr.mono L,fun i hi=>?_⟩
 simp only [Aa6,Array.getElem?_push_size,Nat.zero_add]
 simp at hi
 simp [hi]
theorem AtI {P : Program} {o : Oper} {s : Nat→AV} {H : Aac} {N : Nat} (hc : AaY o=true) (t : TypeId) (y : Operand) (ho : o.op = .box t y) (hfit : (ev s y).fits P t=true) :
 Aao P o s H N (.ptr N 0) (upd H N (some (.cells (ev s y).cells))) (N+1) [] [N]:=by
 refine Aao.new (.cells (ev s y).cells) [] (fun _ h=>by simp at h) fun n c s1 H1 a w hrel hu _ hun=>?_
 have h1:=Aaj hrel hu hc (x:=y) (by simp [ho,Op.operands])
 obtain ⟨f1,f2,f3,f4⟩:=AoA hfit h1
 refine ⟨.pointer (some ⟨w.heap.size,0,none⟩),.cells (a.eval y).cells t,w.alloc (.cells (a.eval y).cells t),0,(a.eval y).cells.size,by simp [execOp,ho,Instr.box,newVar,newRow],rfl,rfl,rfl,rfl,fun L=>⟨Af4 f1 L,?_⟩⟩
 simp only [Rep,AbR,Aei.live.injEq]
 refine ⟨by simp,rfl,?_⟩
 rintro b base sz ⟨rfl,rfl,rfl⟩
 rfl
theorem AfA {P : Program} {t : TypeId} {z : List AV} (h : AbW P t=some z) : ∃ i v,P.info? t=some i∧i.zero=some v∧okV v=true∧v.cells.size=i.size∧z=v.cells.toList.map ofS:=by
 unfold AbW at h
 cases hi : P.info? t with
 | none=>rw [hi] at h; cases h
 | some i =>
  rw [hi] at h
  simp only [Option.bind_some] at h
  cases hz : i.zero with
  | none=>rw [hz] at h; cases h
  | some v =>
   rw [hz] at h
   simp only [Option.map_some,Option.getD_some] at h
   split at h
   ·rename_i hk
    simp only [Bool.and_eq_true,decide_eq_true_eq] at hk
    exact ⟨i,v,rfl,hz,hk.1,hk.2,by simpa using h.symm⟩
   ·cases h
theorem Afi {v : Value} (h : okV v=true) : v.cells.toList.all okS=true:=by
 unfold okV at h
 split at h
 ·exact h
 ·cases v <;> simp_all [Value.cells]
theorem Apq {P : Program} {o : Oper} {s : Nat→AV} {H : Aac} {N : Nat} (t : TypeId) (ho : o.op = .alloc t) (z : List AV) (hz : AbW P t=some z) :
 Aao P o s H N (.ptr N 0) (upd H N (some (.cells z))) (N+1) [] [N]:=by
 refine Aao.new (.cells z) [] (fun _ h=>by simp at h) fun n c s1 H1 a w hrel hu _ hun=>?_
 obtain ⟨i,v,hi,hzv,hok,hsz,rfl⟩:=AfA hz
 have f1 : AaD c (v.cells.toList.map ofS) v.cells.toList:=Af3 c _ (Afi hok)
 refine ⟨.pointer (some ⟨w.heap.size,0,none⟩),.cells v.cells t,w.alloc (.cells v.cells t),0,v.cells.size,by simp [execOp,ho,Instr.alloc,zeroValue,typeInfo,hi,hzv,newVar,newRow],rfl,rfl,rfl,rfl,fun L=>⟨Af4 f1 L,?_⟩⟩
 simp only [Rep,AbR,Aei.live.injEq]
 refine ⟨by simp,rfl,?_⟩
 rintro b base sz ⟨rfl,rfl,rfl⟩
 rfl
theorem AnH {P : Program} {t f d : Nat} (h : Abz P t f=some d) : ∃ fs g i,P.underlying t=some (.struct fs)∧fs[f]? = some g∧P.info? g.type=some i∧i.size≠0∧d=g.offset:=by
 unfold Abz at h
 split at h
 ·rename_i fs hu
  split at h
  ·rename_i g hg
   split at h
   ·rename_i i hi
    split at h
    ·cases h
    ·exact ⟨fs,g,i,hu,hg,hi,by assumption,by simpa using h.symm⟩
   ·cases h
  ·cases h
 ·cases h
theorem Aib {P : Program} {w : World} {t f d b off : Nat} (h : Abz P t f=some d) : (Instr.fieldAt t (.pointer (some ⟨b,off,none⟩)) f).run P w = .ok (.pointer (some ⟨b,off+d,none⟩)) w:=by
 obtain ⟨fs,g,i,hu,hg,hi,hs,rfl⟩:=AnH h
 simp [Instr.fieldAt,run_underlying hu,hg,Instr.sureAddr,fieldPlace,sizeOf,typeInfo,hi,hs,Afw]
theorem Am7 {P : Program} {o : Oper} {s : Nat→AV} {H : Aac} {N : Nat} (hc : AaY o=true) (t : TypeId) (y : Operand) (f : Nat) (ho : o.op = .fieldAddr t y f) (cs : List AV) (hy : ev s y = .cptr cs) (d : Nat)
 (hd : Abz P t f=some d) : Aao P o s H N (.cptr (cs.drop d)) H N [] [] :=
 Aao.pure hc fun ρ w c hh hrep=>by
  have h1:=hrep y (by simp [ho,Op.operands])
  rw [hy] at h1
  simp only [Rep] at h1
  obtain ⟨b,off,vs,hv,hz,hca,hr⟩:=h1
  refine ⟨.pointer (some ⟨b,off+d,none⟩),by simp [execOp,ho,hv,Aib hd],?_⟩
  simp only [Rep]
  exact ⟨b,off+d,vs.drop d,rfl,hz,hca.drop d,hr.drop d⟩
theorem AhZ {c : Cx} {id off b base sz : Nat} (hl : c.ι id = .live b base sz) : Rep c (.ptr id off) (.pointer (some ⟨b,base+off,none⟩)):=by
 simp only [Rep]
 refine ⟨by rw [hl]; simp,rfl,fun b' base' sz' h=>?_⟩
 rw [hl] at h; cases h; rfl
theorem Am6 {P : Program} {o : Oper} {s : Nat→AV} {H : Aac} {N : Nat} (hc : AaY o=true) (t : TypeId) (y : Operand) (f : Nat) (ho : o.op = .fieldAddr t y f) (id off : Nat) (hy : ev s y = .ptr id off) (hid : id<N)
 (obj : AaZ) (hob : H id=some obj) (hne : obj ≠ .grow []) (d : Nat) (hd : Abz P t f=some d) : Aao P o s H N (.ptr id (off+d)) H N [id] [] :=
 Aao.read [id] (fun i h=>by simp at h; omega) fun n c s1 H1 a w hrel hu hT=>by
  have h1:=Aaj hrel hu hc (x:=y) (by simp [ho,Op.operands])
  rw [hy] at h1
  obtain ⟨b,base,sz,hl,hor⟩:=hrel.hr.live_of ((hT id (by simp)).trans hob) hne
  have hv:=Ab3 h1 hl
  refine ⟨.pointer (some ⟨b,base+(off+d),none⟩),?_,AhZ hl⟩
  simp [execOp,ho,hv,Aib hd,Nat.add_assoc]
theorem AjX {P : Program} {o : Oper} {s : Nat→AV} {H : Aac} {N : Nat} (hc : AaY o=true) (y : Operand) (ho : o.op = .nilCheck y) (cs : List AV) (hy : ev s y = .cptr cs) : Aao P o s H N (.cptr cs) H N [] [] :=
 Aao.pure hc fun ρ w c hh hrep=>by
  have h1:=hrep y (by simp [ho,Op.operands])
  rw [hy] at h1
  refine ⟨ρ y,?_,h1⟩
  simp only [Rep] at h1
  obtain ⟨b,off,vs,hv,_⟩:=h1
  simp [execOp,ho,hv]
theorem AjW {P : Program} {o : Oper} {s : Nat→AV} {H : Aac} {N : Nat} (hc : AaY o=true) (y : Operand) (ho : o.op = .nilCheck y) (f : FuncId) (cs : List AV) (hy : ev s y = .fn f cs) : Aao P o s H N (.fn f cs) H N [] [] :=
 Aao.pure hc fun ρ w c hh hrep=>by
  have h1:=hrep y (by simp [ho,Op.operands])
  rw [hy] at h1
  refine ⟨ρ y,?_,h1⟩
  simp only [Rep] at h1
  obtain ⟨vs,hv,_⟩:=h1
  simp [execOp,ho,hv]
theorem AjV {P : Program} {o : Oper} {s : Nat→AV} {H : Aac} {N : Nat} (hc : AaY o=true) (y : Operand) (ho : o.op = .nilCheck y) (id off : Nat) (hy : ev s y = .ptr id off) (hid : id<N)
 (obj : AaZ) (hob : H id=some obj) (hne : obj ≠ .grow []) : Aao P o s H N (.ptr id off) H N [id] [] :=
 Aao.read [id] (fun i h=>by simp at h; omega) fun n c s1 H1 a w hrel hu hT=>by
  have h1:=Aaj hrel hu hc (x:=y) (by simp [ho,Op.operands])
  rw [hy] at h1
  obtain ⟨b,base,sz,hl,hor⟩:=hrel.hr.live_of ((hT id (by simp)).trans hob) hne
  have hv:=Ab3 h1 hl
  exact ⟨a.eval y,by simp [execOp,ho,hv],h1⟩
theorem Aa9 {P : Program} {t : TypeId} {e es by_ : Nat} (h : Aap P t=some (e,es,by_)) : ∃ i,P.underlying t=some (.slice e)∧P.info? e=some i∧i.size=es∧i.bytes=by_∧∃ z,i.zero=some z∧z.cells.size=es:=by
 unfold Aap at h
 split at h
 ·rename_i e' hu
  split at h
  ·rename_i i hi
   split at h
   ·rename_i z hz
    split at h
    ·rename_i hs
     simp only [Option.some.injEq,Prod.mk.injEq] at h
     obtain ⟨rfl,rfl,rfl⟩:=h
     exact ⟨i,hu,hi,rfl,rfl,z,hz,hs⟩
    ·cases h
   ·cases h
  ·cases h
 ·cases h
theorem Ahu {P : Program} {t : TypeId} {n es : Nat} (h : Aet P t=some (n,es)) : ∃ e i,P.underlying t=some (.array n e)∧P.info? e=some i∧i.size=es:=by
 unfold Aet at h
 split at h
 ·rename_i n' e' hu
  cases hi : P.info? e' with
  | none=>rw [hi] at h; cases h
  | some i =>
   rw [hi] at h
   simp only [Option.map_some,Option.some.injEq,Prod.mk.injEq] at h
   obtain ⟨rfl,rfl⟩:=h
   exact ⟨e',i,hu,hi,rfl⟩
 ·cases h
def AV.okc (x : AV) : Bool:=x.one||(match x with | .agg _=>true | _=>false)
theorem Ag3 {x : AV} (h : x.okc=true) {c : Cx} {v : Value} (hr : Rep c x v) : AaD c x.cells v.cells.toList:=by
 refine hr.cells ?_
 simp only [AV.okc,Bool.or_eq_true] at h
 rcases h with h | h
 ·exact .inl h
 ·cases x <;> simp at h; exact .inr ⟨_,rfl⟩
theorem Am3 {P : Program} {o : Oper} {s : Nat→AV} {H : Aac} {N : Nat} (hc : AaY o=true) (t : TypeId) (y z : Operand) (ho : o.op = .indexAddr t y z) (nl fl : Bool) (xs : List AV) (hy : ev s y = .lst nl fl xs)
 (k : IntKind) (i : Int) (hz : ev s z = .int k i) (e es by_ : Nat) (hE : Aap P t=some (e,es,by_)) (h0 : 0≤i) (h1 : i.toNat<xs.length) (x : AV) (hx : xs[i.toNat]? = some x) (hok : x.okc=true) (hes : x.cells.length=es) :
 Aao P o s H N (.cptr x.cells) H N [] [] :=
 Aao.pure hc fun ρ w c hh hrep=>by
  have r1:=hrep y (by simp [ho,Op.operands])
  have r2:=hrep z (by simp [ho,Op.operands])
  rw [hy] at r1
  rw [hz] at r2
  simp only [Rep] at r1 r2
  obtain ⟨ii,hu,hi,hsz,_⟩:=Aa9 hE
  rcases r1 with ⟨rfl,_⟩ | ⟨_,ad,b,off,cap,es',vs,hv,c1,c2,_,cz0,cE,cR⟩
  ·simp at h1
  ·have hl:=cR.length
   obtain ⟨rfl,cz⟩:=cz0 (by omega)
   have hlt : i.toNat<vs.length:=by omega
   have hxi : xs[i.toNat]=x:=by rw [List.getElem?_eq_getElem h1] at hx; simpa using hx
   have hrx : Rep c x vs[i.toNat]:=hxi ▸ cR.get i.toNat h1 hlt
   have hcell:=Ag3 hok hrx
   have hces:=hcell.length
   obtain ⟨g1,g2⟩:=cE i.toNat hlt
   have hes' : es'=es:=by
    rw [← g1,← hes,← hces]; simp
   subst hes'
   have hi2 : i<(vs.length : Int):=by omega
   have hcell2 : Aaw w.heap b (off+i.toNat*es') vs[i.toNat].cells.toList:=by
    have:=g2; rwa [hh] at this
   refine ⟨.pointer (some ⟨b,off+i.toNat*es',none⟩),?_,?_⟩
   ·simp [execOp,ho,hv,r2.1,Instr.indexAt,asIntOf,run_underlying hu,sizeOf,typeInfo,hi,h0,hi2,hsz,Afw]
   ·simp only [Rep]
    exact ⟨b,_,_,rfl,cz,g2,hcell⟩
theorem Abd {c : Cx} {id off es len b base sz : Nat} {full : Bool} {v : Value} (h : Rep c (.slc id off es len full) v) (hl : c.ι id = .live b base sz) :
 ∃ cap o,v = .slice (some ⟨b,o,none⟩) len cap∧(0<cap→o=base+off)∧len≤cap∧cap≤maxLen∧base+off+cap*es≤sz∧(full=true→cap=len):=by
 simp only [Rep] at h; exact h.2.2.2 b base sz hl
theorem Am2 {P : Program} {o : Oper} {s : Nat→AV} {H : Aac} {N : Nat} (hc : AaY o=true) (t : TypeId) (y z : Operand) (ho : o.op = .indexAddr t y z) (id off es len : Nat) (full : Bool) (hy : ev s y = .slc id off es len full)
 (hid : id<N) (obj : AaZ) (hob : H id=some obj) (hne : obj ≠ .grow []) (k : IntKind) (i : Int) (hz : ev s z = .int k i) (e by_ : Nat) (hE : Aap P t=some (e,es,by_)) (h0 : 0≤i) (h1 : i.toNat<len) :
 Aao P o s H N (.ptr id (off+i.toNat*es)) H N [id] [] :=
 Aao.read [id] (fun i h=>by simp at h; omega) fun n c s1 H1 a w hrel hu hT=>by
  have r1:=Aaj hrel hu hc (x:=y) (by simp [ho,Op.operands])
  have r2:=Aaj hrel hu hc (x:=z) (by simp [ho,Op.operands])
  rw [hy] at r1
  rw [hz] at r2
  simp only [Rep] at r2
  obtain ⟨ii,hu',hi,hsz,_⟩:=Aa9 hE
  obtain ⟨b,base,sz,hl,hor⟩:=hrel.hr.live_of ((hT id (by simp)).trans hob) hne
  obtain ⟨cap,o',hv,ho',c1,c2,c3,_⟩:=Abd r1 hl
  have : o'=base+off:=ho' (by omega)
  subst this
  have hi2 : i<(len : Int):=by omega
  refine ⟨.pointer (some ⟨b,base+(off+i.toNat*es),none⟩),?_,AhZ hl⟩
  simp [execOp,ho,hv,r2.1,Instr.indexAt,asIntOf,run_underlying hu',sizeOf,typeInfo,hi,h0,hi2,hsz,Afw,Nat.add_assoc]
theorem Alh {P : Program} {o : Oper} {s : Nat→AV} {H : Aac} {N : Nat} (hc : AaY o=true) (t : TypeId) (y z : Operand) (ho : o.op = .indexAddr t y z) (cs : List AV) (hy : ev s y = .cptr cs)
 (k : IntKind) (i : Int) (hz : ev s z = .int k i) (m es : Nat) (hE : Aet P t=some (m,es)) (h0 : 0≤i) (h1 : i<m) : Aao P o s H N (.cptr (cs.drop (i.toNat*es))) H N [] [] :=
 Aao.pure hc fun ρ w c hh hrep=>by
  have r1:=hrep y (by simp [ho,Op.operands])
  have r2:=hrep z (by simp [ho,Op.operands])
  rw [hy] at r1
  rw [hz] at r2
  simp only [Rep] at r1 r2
  obtain ⟨e,ii,hu,hi,hsz⟩:=Ahu hE
  obtain ⟨b,off,vs,hv,hz,hca,hr⟩:=r1
  refine ⟨.pointer (some ⟨b,off+i.toNat*es,none⟩),by simp [execOp,ho,hv,r2.1,Instr.indexAt,asIntOf,run_underlying hu,Instr.sureAddr,sizeOf,typeInfo,hi,h0,h1,hsz,Afw],?_⟩
  simp only [Rep]
  exact ⟨b,_,vs.drop _,rfl,hz,hca.drop _,hr.drop _⟩
theorem Alg {P : Program} {o : Oper} {s : Nat→AV} {H : Aac} {N : Nat} (hc : AaY o=true) (t : TypeId) (y z : Operand) (ho : o.op = .indexAddr t y z) (id off : Nat) (hy : ev s y = .ptr id off) (hid : id<N)
 (obj : AaZ) (hob : H id=some obj) (hne : obj ≠ .grow []) (k : IntKind) (i : Int) (hz : ev s z = .int k i) (m es : Nat) (hE : Aet P t=some (m,es)) (h0 : 0≤i) (h1 : i<m) :
 Aao P o s H N (.ptr id (off+i.toNat*es)) H N [id] [] :=
 Aao.read [id] (fun i h=>by simp at h; omega) fun n c s1 H1 a w hrel hu hT=>by
  have r1:=Aaj hrel hu hc (x:=y) (by simp [ho,Op.operands])
  have r2:=Aaj hrel hu hc (x:=z) (by simp [ho,Op.operands])
  rw [hy] at r1
  rw [hz] at r2
  simp only [Rep] at r2
  obtain ⟨e,ii,hu',hi,hsz⟩:=Ahu hE
  obtain ⟨b,base,sz,hl,hor⟩:=hrel.hr.live_of ((hT id (by simp)).trans hob) hne
  have hv:=Ab3 r1 hl
  refine ⟨.pointer (some ⟨b,base+(off+i.toNat*es),none⟩),?_,AhZ hl⟩
  simp [execOp,ho,hv,r2.1,Instr.indexAt,asIntOf,run_underlying hu',Instr.sureAddr,sizeOf,typeInfo,hi,h0,h1,hsz,Afw,Nat.add_assoc]
theorem Am8 {P : Program} {o : Oper} {s : Nat→AV} {H : Aac} {N : Nat} (hc : AaY o=true) (y : Operand) (i : Nat) (ho : o.op = .extract y i) (xs : List AV) (hy : ev s y = .tup xs) (x : AV) (hx : xs[i]? = some x) :
 Aao P o s H N x H N [] [] :=
 Aao.pure hc fun ρ w c hh hrep=>by
  have h1:=hrep y (by simp [ho,Op.operands])
  rw [hy] at h1
  simp only [Rep] at h1
  obtain ⟨vs,hv,hr⟩:=h1
  have hl:=hr.length
  obtain ⟨hlt,rfl⟩:=List.getElem?_eq_some_iff.1 hx
  have hlt' : i<vs.size:=by simp at hl; omega
  refine ⟨vs[i],?_,?_⟩
  ·simp [execOp,ho,hv,Instr.extract,hlt']
  ·have:=hr.get i hlt (by simpa using hlt')
   simpa using this
theorem Ale {P : Program} {o : Oper} {s : Nat→AV} {H : Aac} {N : Nat} (hc : AaY o=true) (f : FuncId) (caps : Array Operand) (ho : o.op = .makeFunc (.func f) #[] caps) :
 Aao P o s H N (.fn f (caps.toList.map (ev s))) H N [] [] :=
 Aao.pure hc fun ρ w c hh hrep=>by
  refine ⟨.func (.func f) #[] (caps.map ρ),by simp [execOp,ho,Instr.makeFunc],?_⟩
  simp only [Rep]
  refine ⟨_,rfl,?_⟩
  have : ∀ l : List Operand,(∀ y ∈ l,Rep c (ev s y) (ρ y))→AaD c (l.map (ev s)) (l.map ρ):=by
   intro l
   induction l with
   | nil=>simp [AaD]
   | cons y l ih =>
    intro h
    simp only [List.map_cons,AaD]
    exact ⟨_,_,rfl,h y (by simp),ih fun z hz=>h z (by simp [hz])⟩
  simpa using this caps.toList fun y hy=>hrep y (by simpa [ho,Op.operands] using hy)
end Go.Abs
