import Derived.Test.YtomgdcnbceiggaaSmtLay4
set_option linter.unusedVariables false
set_option linter.unusedSimpArgs false
namespace Go.Abs
open Go.RowKit (Below)
theorem Afa (b off j : Nat) : (⟨b,off,none⟩ : Addr).add j=⟨b,off+j,none⟩:=by
 unfold Addr.add; split <;> simp_all
theorem AdJ {P : Program} {w : World} {b off : Nat} {vs : List Value} (h : AbH w.heap b off vs) : (loadCells ⟨b,off,none⟩ vs.length).run P w = .ok vs.toArray w:=by
 refine run_loadCells_list w ⟨b,off,none⟩ vs fun j v hj=>?_
 obtain ⟨hlt,rfl⟩:=List.getElem?_eq_some_iff.1 hj
 rw [Afa,cell?_eq]
 exact h j hlt
theorem AgC (w : World) (b o k : Nat) (v : Value) (hk : k≠b) : (w.setCell ⟨b,o,none⟩ v).heap[k]? = w.heap[k]?:=by
 simp only [World.setCell,Array.getElem?_modify]
 rw [if_neg (by simpa using fun e=>hk e.symm)]
theorem Agd (w : World) (b o : Nat) (v : Value) {cur : Array Value} {T : TypeId} {fr : Nat×Nat} (h : w.heap[b]? = some (.cells cur T fr)) :
 (w.setCell ⟨b,o,none⟩ v).heap[b]? = some (.cells (cur.setIfInBounds o v) T fr):=by
 simp [World.setCell,Array.getElem?_modify,h]
theorem Ale {w : World} {b : Nat} {cur : Array Value} {T : TypeId} {fr : Nat×Nat} (h : w.heap[b]? = some (.cells cur T fr)) (hf : Agp cur.size fr) {o : Nat} (ho : o<cur.size) : w.frozen? ⟨b,o,none⟩=false:=by
 have:=hf.2 o ho
 simp only [World.frozen?,h]
 simpa using this
structure AkF (w w' : World) (b : Nat) (cur : Array Value) (T : TypeId) (fr : Nat×Nat) (lo : Nat) (vs : List Value) : Prop where
 size : w'.heap.size=w.heap.size
 other : ∀ k,k≠b→w'.heap[k]? = w.heap[k]?
 block : ∃ cur',w'.heap[b]? = some (.cells cur' T fr)∧cur'.size=cur.size∧(∀ i (h : i<vs.length),cur'[lo+i]? = some vs[i])∧∀ j,(j<lo∨lo+vs.length≤j)→cur'[j]? = cur[j]?
 os : w'.os=w.os
 tape : w'.tape=w.tape
 output : w'.output=w.output
theorem Ab8 {P : Program} {b off : Nat} {T : TypeId} {fr : Nat×Nat} : ∀ (vs : List Value) (i : Nat) (cur : Array Value) (w : World),w.heap[b]? = some (.cells cur T fr)→Agp cur.size fr →
 off+i+vs.length≤cur.size→(∀ v ∈ vs,v.oneCell'=true)→∃ w',(storeCells ⟨b,off,none⟩ vs i).run P w = .ok () w'∧AkF w w' b cur T fr (off+i) vs
 | [],i,cur,w,h,_,_,_=>⟨w,rfl,rfl,fun _ _=>rfl,⟨cur,h,rfl,fun _ h=>by simp at h,fun _ _=>rfl⟩,rfl,rfl,rfl⟩
 | v::vs,i,cur,w,h,hf,hl,h1=>by
  simp only [List.length_cons] at hl
  have hlt : off+i<cur.size:=by omega
  obtain ⟨w',hr,S⟩:=Ab8 (P:=P) (off:=off) vs (i+1) (cur.setIfInBounds (off+i) v) (w.setCell ⟨b,off+i,none⟩ v) (Agd w b (off+i) v h) (by simpa using hf) (by simp; omega) (fun x hx=>h1 x (by simp [hx]))
  have hc : w.cell? ⟨b,off+i,none⟩=some cur[off+i]:=by rw [cell?_eq]; simp [AbR,h,hlt]
  refine ⟨w',?_,?_⟩
  ·simp only [storeCells,Sem.run_bind,Afa,run_store P w _ v .plain (h1 v (by simp)),hc,Ale h hf hlt,Result.andThen_ok,Bool.false_eq_true,if_false]
   exact hr
  ·obtain ⟨cur',e1,e2,e3,e4⟩:=S.block
   refine ⟨by rw [S.size]; simp,fun k hk=>(S.other k hk).trans (AgC w b (off+i) k v hk),⟨cur',e1,by simpa using e2,?_,?_⟩,S.os,S.tape,S.output⟩
   ·intro j hj
    cases j with
    | zero =>
     rw [Nat.add_zero,e4 (off+i) (.inl (by omega))]
     simp [hlt]
    | succ j =>
     have:=e3 j (by simpa using hj)
     rw [show off+(i+1)+j=off+i+(j+1) by omega] at this
     simpa using this
   ·intro j hj
    simp only [List.length_cons] at hj
    rw [e4 j (by omega),Array.getElem?_setIfInBounds_ne (by omega)]
def Ae9 (P : Program) (t : TypeId) (cs : List AV) : Option AV :=
 match AdE P t with
 | some false=>cs.head?
 | some true=>match Abt P t with
  | some n=>if n≤cs.length∧0<n then some (.agg (cs.take n)) else none
  | none=>none
 | none=>none
theorem AfN {P : Program} {w : World} {t : TypeId} {b : Bool} (h : AdE P t=some b) : (isAgg t).run P w = .ok b w:=by
 unfold AdE at h
 unfold isAgg
 cases hu : P.underlying t with
 | none=>rw [hu] at h; cases h
 | some d=>rw [hu] at h; cases d <;> simp_all [run_underlying hu]
theorem AeC {P : Program} {w : World} {t n : Nat} (h : Abt P t=some n) : (sizeOf t).run P w = .ok n w:=by
 unfold Abt at h
 cases hi : P.info? t with
 | none=>rw [hi] at h; cases h
 | some i=>rw [hi] at h; simp at h; simp [sizeOf,typeInfo,hi,h]
theorem Aef {P : Program} {w : World} {c : Cx} {t b off : Nat} {vs : List Value} {cs : List AV} {x : AV} (hc : AbH w.heap b off vs) (hr : AaF c cs vs) (hx : Ae9 P t cs=some x) :
 ∃ v,(loadVar t ⟨b,off,none⟩).run P w = .ok v w∧Rep c x v:=by
 unfold Ae9 at hx
 cases hta : AdE P t with
 | none=>rw [hta] at hx; cases hx
 | some ag =>
  rw [hta] at hx
  cases ag with
  | false =>
   simp only at hx
   cases cs with
   | nil=>cases hx
   | cons y cs =>
    simp only [List.head?_cons,Option.some.injEq] at hx
    subst hx
    simp only [AaF] at hr
    obtain ⟨v,rest,rfl,hv,_⟩:=hr
    have h0:=hc 0 (by simp)
    simp only [Nat.add_zero,List.getElem_cons_zero] at h0
    refine ⟨v,?_,hv⟩
    simp [loadVar,AfN hta,run_load,cell?_eq,h0]
  | true =>
   simp only at hx
   cases hs : Abt P t with
   | none=>rw [hs] at hx; cases hx
   | some n =>
    rw [hs] at hx
    simp only at hx
    split at hx
    ·rename_i hn
     simp only [Option.some.injEq] at hx
     subst hx
     have hlen:=hr.length
     obtain ⟨hn,hn0⟩:=hn
     have hn' : (vs.take n).length=n:=by simp; omega
     have:=AdJ (P:=P) (hc.take n)
     rw [hn'] at this
     refine ⟨.agg (vs.take n).toArray,by simp [loadVar,AfN hta,AeC hs,this],?_⟩
     simp only [Rep]
     exact ⟨_,rfl,by simpa using hr.take n⟩
    ·cases hx
theorem AlY {P : Program} {o : Oper} {s : Nat→AV} {H : Aah} {N : Nat} (hc : Aak o=true) (t : TypeId) (y : Operand) (ho : o.op = .load t y) (cs : List AV) (hy : ev s y = .cptr cs) (x : AV)
 (hx : Ae9 P t cs=some x) : Aay P o s H N x H N [] [] :=
 Aay.pure hc fun ρ w c hh hrep=>by
  have h1:=hrep y (by simp [ho,Op.operands])
  rw [hy] at h1
  simp only [Rep] at h1
  obtain ⟨b,off,vs,hv,_,hca,hr⟩:=h1
  rw [hh] at hca
  obtain ⟨v,hv2,hx2⟩:=Aef (P:=P) (t:=t) hca hr hx
  exact ⟨v,by simp [execOp,ho,hv,Instr.loadAt,Instr.sureAddr,hv2],hx2⟩
def Aan.cs? : Aan→Option (List AV)
 | .cells cs=>some cs
 | .grow cs=>some cs
 | .mp _=>none
 | .it _ _=>none
def Aan.with (o : Aan) (cs : List AV) : Aan :=
 match o with
 | .grow _ => .grow cs
 | _ => .cells cs
theorem AbW.cs {c : Cx} {o : Aan} {cs : List AV} (ho : o.cs? = some cs) {b base sz : Nat} (h : AbW c o b base sz) :
 ∃ cur T fr vs,c.h[b]? = some (.cells cur T fr)∧cur.size=sz∧Agp sz fr∧base+cs.length≤sz∧AaF c cs vs∧AbH c.h b base vs:=by
 cases o <;> simp only [Aan.cs?,Option.some.injEq] at ho
 ·subst ho; exact h
 ·subst ho; exact h.2
 all_goals cases ho
theorem AcG {c : Cx} {id off b base sz : Nat} {v : Value} (h : Rep c (.ptr id off) v) (hl : c.ι id = .live b base sz) : v = .pointer (some ⟨b,base+off,none⟩):=by
 simp only [Rep] at h; exact h.2.2 b base sz hl
theorem AlX {P : Program} {o : Oper} {s : Nat→AV} {H : Aah} {N : Nat} (hc : Aak o=true) (t : TypeId) (y : Operand) (ho : o.op = .load t y) (id off : Nat) (hy : ev s y = .ptr id off) (hid : id<N)
 (obj : Aan) (hob : H id=some obj) (cs : List AV) (hcs : obj.cs? = some cs) (x : AV) (hx : Ae9 P t (cs.drop off)=some x) : Aay P o s H N x H N [id] [] :=
 Aay.read [id] (fun i h=>by simp at h; omega) fun n c s1 H1 a w hrel hu hT=>by
  have h1:=Aaw hrel hu hc (x:=y) (by simp [ho,Op.operands])
  rw [hy] at h1
  have hne : obj ≠ .grow []:=by
   intro e; subst e
   simp only [Aan.cs?,Option.some.injEq] at hcs
   subst hcs
   unfold Ae9 at hx
   simp only [List.drop_nil,List.head?_nil,List.length_nil,Nat.le_zero_eq] at hx
   split at hx
   ·cases hx
   ·split at hx
    ·split at hx
     ·omega
     ·cases hx
    ·cases hx
   ·cases hx
  obtain ⟨b,base,sz,hl,hor⟩:=hrel.hr.live_of ((hT id (by simp)).trans hob) hne
  have hv:=AcG h1 hl
  obtain ⟨cur,T,fr,vs,e1,e2,e3,e4,e5,e6⟩:=hor.cs hcs
  have hh:=hrel.hr.heap
  rw [hh] at e6
  obtain ⟨v,hv2,hx2⟩:=Aef (P:=P) (w:=w) (t:=t) (e6.drop off) (e5.drop off) hx
  exact ⟨v,by simp [execOp,ho,hv,Instr.loadAt,Instr.sureAddr,hv2],hx2⟩
def Ah2 (cs : List AV) (off : Nat) (xs : List AV) : List AV :=
 match xs with
 | [x]=>cs.set off x
 | xs=>cs.take off++xs++cs.drop (off+xs.length)
theorem AhX (cs : List AV) (off : Nat) (xs : List AV) (h : off+xs.length≤cs.length) : Ah2 cs off xs=cs.take off++xs++cs.drop (off+xs.length):=by
 unfold Ah2
 split
 ·rename_i x
  simp only [List.length_singleton] at h ⊢
  rw [List.set_eq_take_append_cons_drop,if_pos (by omega)]
  simp
 ·rfl
theorem Af1 (cs : List AV) (off : Nat) (xs : List AV) (h : off+xs.length≤cs.length) : (Ah2 cs off xs).length=cs.length:=by
 rw [AhX cs off xs h]; simp; omega
def AV.fits (P : Program) (t : TypeId) (x : AV) : Bool :=
 (match x with | .agg cs=>cs.all AV.one | x=>x.one)&&(Abt P t==some x.cells.length)
theorem AlH {P : Program} {t : TypeId} {x : AV} (h : x.fits P t=true) {c : Cx} {v : Value} (hr : Rep c x v) :
 AaF c x.cells v.cells.toList∧(∀ u ∈ v.cells.toList,u.oneCell'=true)∧Abt P t=some v.cells.size∧v.cells.size=x.cells.length:=by
 simp only [AV.fits,Bool.and_eq_true,beq_iff_eq] at h
 obtain ⟨h1,h2⟩:=h
 have hk : AaF c x.cells v.cells.toList:=by
  refine hr.cells ?_
  cases x <;> first | exact .inr ⟨_,rfl⟩ | exact .inl h1
 have hl:=hk.length
 refine ⟨hk,?_,?_,?_⟩
 ·refine hk.oneCell ?_
  cases x <;> first | exact h1 | simpa [AV.cells] using h1
 ·rw [h2,← hl]; simp
 ·rw [← hl]; simp
theorem Ajd {P : Program} {w : World} {t b off : Nat} {v : Value} (hs : Abt P t=some v.cells.size) {cur : Array Value} {T : TypeId} {fr : Nat×Nat} (hb : w.heap[b]? = some (.cells cur T fr))
 (hf : Agp cur.size fr) (hl : off+v.cells.size≤cur.size) (h1 : ∀ u ∈ v.cells.toList,u.oneCell'=true) :
 ∃ w',(storeVar t ⟨b,off,none⟩ v).run P w = .ok () w'∧AkF w w' b cur T fr off v.cells.toList:=by
 obtain ⟨w',hr,S⟩:=Ab8 (P:=P) (off:=off) v.cells.toList 0 cur w hb hf (by simpa using hl) h1
 refine ⟨w',?_,S⟩
 simp [storeVar,AeC hs,hr]
theorem AfT {c : Cx} {w w1 : World} (hh : c.h=w.heap) {o : Aan} {cs : List AV} (ho : o.cs? = some cs) {b base sz off : Nat} (hor : AbW c o b base sz) {vs : List Value} {xs : List AV}
 (hl : off+xs.length≤cs.length) (hx : AaF c xs vs) {cur : Array Value} {T : TypeId} {fr : Nat×Nat} (hb : w.heap[b]? = some (.cells cur T fr)) (S : AkF w w1 b cur T fr (base+off) vs)
 (L : c.Le ⟨c.Z,c.ι,w1.heap⟩) : AbW ⟨c.Z,c.ι,w1.heap⟩ (o.with (Ah2 cs off xs)) b base sz:=by
 obtain ⟨cur0,T0,fr0,us,e1,e2,e3,e4,e5,e6⟩:=hor.cs ho
 rw [hh,hb] at e1
 cases e1
 obtain ⟨cur',k1,k2,k3,k4⟩:=S.block
 have hvl:=hx.length
 have hul:=e5.length
 cases o with
 | mp es=>cases ho
 | it _ _=>cases ho
 | cells cs0 =>
  simp only [Aan.cs?,Option.some.injEq] at ho; subst ho
  refine ⟨cur',T,fr,us.take off++vs++us.drop (off+vs.length),k1,by omega,e3,by rw [Af1 _ _ _ hl]; exact e4,?_,?_⟩
  ·rw [AhX _ _ _ hl,hvl]
   exact (((e5.take off).append hx).append (e5.drop _)).mono L
  ·exact key us vs off base cs0.length (by omega) (by omega) e6 k1 k3 k4 (hh ▸ hb)
 | grow cs0 =>
  simp only [Aan.cs?,Option.some.injEq] at ho; subst ho
  refine ⟨?_,cur',T,fr,us.take off++vs++us.drop (off+vs.length),k1,by omega,e3,by rw [Af1 _ _ _ hl]; exact e4,?_,?_⟩
  ·intro e
   have:=Af1 cs0 off xs hl
   rw [e] at this
   have h0:=hor.1
   exact h0 (List.eq_nil_of_length_eq_zero (by simpa using this.symm))
  ·rw [AhX _ _ _ hl,hvl]
   exact (((e5.take off).append hx).append (e5.drop _)).mono L
  ·exact key us vs off base cs0.length (by omega) (by omega) e6 k1 k3 k4 (hh ▸ hb)
where
 key {h h' : Array Obj} {b : Nat} {cur cur' : Array Value} {T : TypeId} {fr : Nat×Nat} (us vs : List Value) (off base m : Nat) (hm : us.length=m) (hl : off+vs.length≤m) (e6 : AbH h b base us) (k1 : h'[b]? = some (.cells cur' T fr))
  (k3 : ∀ i (h : i<vs.length),cur'[base+off+i]? = some vs[i]) (k4 : ∀ j,(j<base+off∨base+off+vs.length≤j)→cur'[j]? = cur[j]?) (hb : h[b]? = some (.cells cur T fr)) :
  AbH h' b base (us.take off++vs++us.drop (off+vs.length)):=by
  have old : ∀ j (hj : j<us.length),(j<off∨off+vs.length≤j)→AbR h' b (base+j)=some us[j]:=by
   intro j hj hor
   have:=e6 j hj
   simp only [AbR,hb,k1] at this ⊢
   rw [k4 (base+j) (by omega)]; exact this
  refine AbH.append (AbH.append ?_ ?_) ?_
  ·intro i hi
   simp only [List.length_take] at hi
   rw [List.getElem_take]
   exact old i (by omega) (.inl (by omega))
  ·intro i hi
   have:=k3 i hi
   simp only [AbR,k1,List.length_take]
   rw [show base+min off us.length+i=base+off+i by omega]; exact this
  ·intro i hi
   simp only [List.length_drop] at hi
   rw [List.getElem_drop]
   have:=old (off+vs.length+i) (by omega) (.inr (by omega))
   simp only [List.length_append,List.length_take]
   rw [show base+(min off us.length+vs.length)+i=base+(off+vs.length+i) by omega]; exact this
theorem AmH {P : Program} {o : Oper} {s : Nat→AV} {H : Aah} {N : Nat} (hc : Aak o=true) (t : TypeId) (y z : Operand) (ho : o.op = .store t y z) (id off : Nat) (hy : ev s y = .ptr id off) (hid : id<N)
 (obj : Aan) (hob : H id=some obj) (cs : List AV) (hcs : obj.cs? = some cs) (hfit : (ev s z).fits P t=true) (hl : off+(ev s z).cells.length≤cs.length) (hl0 : cs≠[]) :
 Aay P o s H N .skip (upd H id (some (obj.with (Ah2 cs off (ev s z).cells)))) N [id] [id]:=by
 have hne : obj ≠ .grow []:=by
  intro e; subst e
  simp only [Aan.cs?,Option.some.injEq] at hcs
  exact hl0 hcs.symm
 refine Aay.write id obj _ hid hob hne .skip [id] (fun i h=>by simp at h; omega) (by simp) fun n c s1 H1 a w hrel hu hT b base sz hlive hor=>?_
 have h1:=Aaw hrel hu hc (x:=y) (by simp [ho,Op.operands])
 have h2:=Aaw hrel hu hc (x:=z) (by simp [ho,Op.operands])
 rw [hy] at h1
 have hv:=AcG h1 hlive
 obtain ⟨f1,f2,f3,f4⟩:=AlH hfit h2
 obtain ⟨cur,T,fr,vs,e1,e2,e3,e4,e5,e6⟩:=hor.cs hcs
 have hh:=hrel.hr.heap
 rw [hh] at e1
 obtain ⟨w',hr,S⟩:=Ajd (P:=P) (w:=w) (off:=base+off) f3 e1 (by rw [e2]; exact e3) (by omega) f2
 refine ⟨w',.skip,Go.undef,.inl ⟨rfl,rfl⟩,?_,S.size,S.other,S.os,S.tape,S.output,fun L=>⟨AfT hh hcs hor hl f1 e1 S L,by simp [Rep]⟩⟩
 simp [execOp,ho,hv,Instr.storeAt,Instr.sureAddr,hr]
theorem Aik (n : Nat) : Agp n (0,0):=⟨Nat.le_refl _,fun o _ h=>by omega⟩
theorem Afk {c : Cx} {w : World} {N : Nat} {xs : List AV} {cells : Array Value} {T : TypeId} (hr : AaF c xs cells.toList) (L : c.Le ⟨c.Z,upd c.ι N (.live w.heap.size 0 cells.size),w.heap.push (.cells cells T)⟩) :
 AbW ⟨c.Z,upd c.ι N (.live w.heap.size 0 cells.size),w.heap.push (.cells cells T)⟩ (.cells xs) w.heap.size 0 cells.size:=by
 have hl:=hr.length
 refine ⟨cells,T,(0,0),cells.toList,by simp,rfl,Aik _,by simp at hl; omega,hr.mono L,fun i hi=>?_⟩
 simp only [AbR,Array.getElem?_push_size,Nat.zero_add]
 simp at hi
 simp [hi]
theorem Aog {P : Program} {o : Oper} {s : Nat→AV} {H : Aah} {N : Nat} (hc : Aak o=true) (t : TypeId) (y : Operand) (ho : o.op = .box t y) (hfit : (ev s y).fits P t=true) :
 Aay P o s H N (.ptr N 0) (upd H N (some (.cells (ev s y).cells))) (N+1) [] [N]:=by
 refine Aay.new (.cells (ev s y).cells) [] (fun _ h=>by simp at h) fun n c s1 H1 a w hrel hu _ hun=>?_
 have h1:=Aaw hrel hu hc (x:=y) (by simp [ho,Op.operands])
 obtain ⟨f1,f2,f3,f4⟩:=AlH hfit h1
 refine ⟨.pointer (some ⟨w.heap.size,0,none⟩),.cells (a.eval y).cells t,w.alloc (.cells (a.eval y).cells t),0,(a.eval y).cells.size,by simp [execOp,ho,Instr.box,newVar,newRow],rfl,rfl,rfl,rfl,fun L=>⟨Afk f1 L,?_⟩⟩
 simp only [Rep,Abg,AeY.live.injEq]
 refine ⟨by simp,rfl,?_⟩
 rintro b base sz ⟨rfl,rfl,rfl⟩
 rfl
theorem Ae1 {P : Program} {t : TypeId} {z : List AV} (h : AcM P t=some z) : ∃ i v,P.info? t=some i∧i.zero=some v∧okV v=true∧v.cells.size=i.size∧z=v.cells.toList.map ofS:=by
 unfold AcM at h
 cases hi : P.info? t with
 | none=>rw [hi] at h; cases h
 | some i =>
  rw [hi] at h
  simp only [Option.bind_some] at h
  cases hz : i.zero with
  | none=>rw [hz] at h; cases h
  | some v =>
   rw [hz] at h
   simp only [Option.map_some,Option.getD_some] at h
   split at h
   ·rename_i hk
    simp only [Bool.and_eq_true,decide_eq_true_eq] at hk
    exact ⟨i,v,rfl,hz,hk.1,hk.2,by simpa using h.symm⟩
   ·cases h
theorem AfS {v : Value} (h : okV v=true) : v.cells.toList.all okS=true:=by
 unfold okV at h
 split at h
 ·exact h
 ·cases v <;> simp_all [Value.cells]
theorem AmQ {P : Program} {o : Oper} {s : Nat→AV} {H : Aah} {N : Nat} (t : TypeId) (ho : o.op = .alloc t) (z : List AV) (hz : AcM P t=some z) :
 Aay P o s H N (.ptr N 0) (upd H N (some (.cells z))) (N+1) [] [N]:=by
 refine Aay.new (.cells z) [] (fun _ h=>by simp at h) fun n c s1 H1 a w hrel hu _ hun=>?_
 obtain ⟨i,v,hi,hzv,hok,hsz,rfl⟩:=Ae1 hz
 have f1 : AaF c (v.cells.toList.map ofS) v.cells.toList:=Afj c _ (AfS hok)
 refine ⟨.pointer (some ⟨w.heap.size,0,none⟩),.cells v.cells t,w.alloc (.cells v.cells t),0,v.cells.size,by simp [execOp,ho,Instr.alloc,zeroValue,typeInfo,hi,hzv,newVar,newRow],rfl,rfl,rfl,rfl,fun L=>⟨Afk f1 L,?_⟩⟩
 simp only [Rep,Abg,AeY.live.injEq]
 refine ⟨by simp,rfl,?_⟩
 rintro b base sz ⟨rfl,rfl,rfl⟩
 rfl
theorem Aki {P : Program} {t f d : Nat} (h : AcT P t f=some d) : ∃ fs g i,P.underlying t=some (.struct fs)∧fs[f]? = some g∧P.info? g.type=some i∧i.size≠0∧d=g.offset:=by
 unfold AcT at h
 split at h
 ·rename_i fs hu
  split at h
  ·rename_i g hg
   split at h
   ·rename_i i hi
    split at h
    ·cases h
    ·exact ⟨fs,g,i,hu,hg,hi,by assumption,by simpa using h.symm⟩
   ·cases h
  ·cases h
 ·cases h
theorem AhZ {P : Program} {w : World} {t f d b off : Nat} (h : AcT P t f=some d) : (Instr.fieldAt t (.pointer (some ⟨b,off,none⟩)) f).run P w = .ok (.pointer (some ⟨b,off+d,none⟩)) w:=by
 obtain ⟨fs,g,i,hu,hg,hi,hs,rfl⟩:=Aki h
 simp [Instr.fieldAt,run_underlying hu,hg,Instr.sureAddr,fieldPlace,sizeOf,typeInfo,hi,hs,Afa]
theorem AkZ {P : Program} {o : Oper} {s : Nat→AV} {H : Aah} {N : Nat} (hc : Aak o=true) (t : TypeId) (y : Operand) (f : Nat) (ho : o.op = .fieldAddr t y f) (cs : List AV) (hy : ev s y = .cptr cs) (d : Nat)
 (hd : AcT P t f=some d) : Aay P o s H N (.cptr (cs.drop d)) H N [] [] :=
 Aay.pure hc fun ρ w c hh hrep=>by
  have h1:=hrep y (by simp [ho,Op.operands])
  rw [hy] at h1
  simp only [Rep] at h1
  obtain ⟨b,off,vs,hv,hz,hca,hr⟩:=h1
  refine ⟨.pointer (some ⟨b,off+d,none⟩),by simp [execOp,ho,hv,AhZ hd],?_⟩
  simp only [Rep]
  exact ⟨b,off+d,vs.drop d,rfl,hz,hca.drop d,hr.drop d⟩
theorem Agh {c : Cx} {id off b base sz : Nat} (hl : c.ι id = .live b base sz) : Rep c (.ptr id off) (.pointer (some ⟨b,base+off,none⟩)):=by
 simp only [Rep]
 refine ⟨by rw [hl]; simp,rfl,fun b' base' sz' h=>?_⟩
 rw [hl] at h; cases h; rfl
theorem AkY {P : Program} {o : Oper} {s : Nat→AV} {H : Aah} {N : Nat} (hc : Aak o=true) (t : TypeId) (y : Operand) (f : Nat) (ho : o.op = .fieldAddr t y f) (id off : Nat) (hy : ev s y = .ptr id off) (hid : id<N)
 (obj : Aan) (hob : H id=some obj) (hne : obj ≠ .grow []) (d : Nat) (hd : AcT P t f=some d) : Aay P o s H N (.ptr id (off+d)) H N [id] [] :=
 Aay.read [id] (fun i h=>by simp at h; omega) fun n c s1 H1 a w hrel hu hT=>by
  have h1:=Aaw hrel hu hc (x:=y) (by simp [ho,Op.operands])
  rw [hy] at h1
  obtain ⟨b,base,sz,hl,hor⟩:=hrel.hr.live_of ((hT id (by simp)).trans hob) hne
  have hv:=AcG h1 hl
  refine ⟨.pointer (some ⟨b,base+(off+d),none⟩),?_,Agh hl⟩
  simp [execOp,ho,hv,AhZ hd,Nat.add_assoc]
theorem AiB {P : Program} {o : Oper} {s : Nat→AV} {H : Aah} {N : Nat} (hc : Aak o=true) (y : Operand) (ho : o.op = .nilCheck y) (cs : List AV) (hy : ev s y = .cptr cs) : Aay P o s H N (.cptr cs) H N [] [] :=
 Aay.pure hc fun ρ w c hh hrep=>by
  have h1:=hrep y (by simp [ho,Op.operands])
  rw [hy] at h1
  refine ⟨ρ y,?_,h1⟩
  simp only [Rep] at h1
  obtain ⟨b,off,vs,hv,_⟩:=h1
  simp [execOp,ho,hv]
theorem AiA {P : Program} {o : Oper} {s : Nat→AV} {H : Aah} {N : Nat} (hc : Aak o=true) (y : Operand) (ho : o.op = .nilCheck y) (f : FuncId) (cs : List AV) (hy : ev s y = .fn f cs) : Aay P o s H N (.fn f cs) H N [] [] :=
 Aay.pure hc fun ρ w c hh hrep=>by
  have h1:=hrep y (by simp [ho,Op.operands])
  rw [hy] at h1
  refine ⟨ρ y,?_,h1⟩
  simp only [Rep] at h1
  obtain ⟨vs,hv,_⟩:=h1
  simp [execOp,ho,hv]
theorem Ah9 {P : Program} {o : Oper} {s : Nat→AV} {H : Aah} {N : Nat} (hc : Aak o=true) (y : Operand) (ho : o.op = .nilCheck y) (id off : Nat) (hy : ev s y = .ptr id off) (hid : id<N)
 (obj : Aan) (hob : H id=some obj) (hne : obj ≠ .grow []) : Aay P o s H N (.ptr id off) H N [id] [] :=
 Aay.read [id] (fun i h=>by simp at h; omega) fun n c s1 H1 a w hrel hu hT=>by
  have h1:=Aaw hrel hu hc (x:=y) (by simp [ho,Op.operands])
  rw [hy] at h1
  obtain ⟨b,base,sz,hl,hor⟩:=hrel.hr.live_of ((hT id (by simp)).trans hob) hne
  have hv:=AcG h1 hl
  exact ⟨a.eval y,by simp [execOp,ho,hv],h1⟩
theorem AbU {P : Program} {t : TypeId} {e es by_ : Nat} (h : Aa9 P t=some (e,es,by_)) : ∃ i,P.underlying t=some (.slice e)∧P.info? e=some i∧i.size=es∧i.bytes=by_∧∃ z,i.zero=some z∧z.cells.size=es:=by
 unfold Aa9 at h
 split at h
 ·rename_i e' hu
  split at h
  ·rename_i i hi
   split at h
   ·rename_i z hz
    split at h
    ·rename_i hs
     simp only [Option.some.injEq,Prod.mk.injEq] at h
     obtain ⟨rfl,rfl,rfl⟩:=h
     exact ⟨i,hu,hi,rfl,rfl,z,hz,hs⟩
    ·cases h
   ·cases h
  ·cases h
 ·cases h
theorem Ag1 {P : Program} {t : TypeId} {n es : Nat} (h : Aei P t=some (n,es)) : ∃ e i,P.underlying t=some (.array n e)∧P.info? e=some i∧i.size=es:=by
 unfold Aei at h
 split at h
 ·rename_i n' e' hu
  cases hi : P.info? e' with
  | none=>rw [hi] at h; cases h
  | some i =>
   rw [hi] at h
   simp only [Option.map_some,Option.some.injEq,Prod.mk.injEq] at h
   obtain ⟨rfl,rfl⟩:=h
   exact ⟨e',i,hu,hi,rfl⟩
 ·cases h
def AV.okc (x : AV) : Bool:=x.one||(match x with | .agg _=>true | _=>false)
theorem AgJ {x : AV} (h : x.okc=true) {c : Cx} {v : Value} (hr : Rep c x v) : AaF c x.cells v.cells.toList:=by
 refine hr.cells ?_
 simp only [AV.okc,Bool.or_eq_true] at h
 rcases h with h | h
 ·exact .inl h
 ·cases x <;> simp at h; exact .inr ⟨_,rfl⟩
theorem AkV {P : Program} {o : Oper} {s : Nat→AV} {H : Aah} {N : Nat} (hc : Aak o=true) (t : TypeId) (y z : Operand) (ho : o.op = .indexAddr t y z) (nl fl : Bool) (xs : List AV) (hy : ev s y = .lst nl fl xs)
 (k : IntKind) (i : Int) (hz : ev s z = .int k i) (e es by_ : Nat) (hE : Aa9 P t=some (e,es,by_)) (h0 : 0≤i) (h1 : i.toNat<xs.length) (x : AV) (hx : xs[i.toNat]? = some x) (hok : x.okc=true) (hes : x.cells.length=es) :
 Aay P o s H N (.cptr x.cells) H N [] [] :=
 Aay.pure hc fun ρ w c hh hrep=>by
  have r1:=hrep y (by simp [ho,Op.operands])
  have r2:=hrep z (by simp [ho,Op.operands])
  rw [hy] at r1
  rw [hz] at r2
  simp only [Rep] at r1 r2
  obtain ⟨ii,hu,hi,hsz,_⟩:=AbU hE
  rcases r1 with ⟨rfl,_⟩ | ⟨_,ad,b,off,cap,es',vs,hv,c1,c2,_,cz0,cE,cR⟩
  ·simp at h1
  ·have hl:=cR.length
   obtain ⟨rfl,cz⟩:=cz0 (by omega)
   have hlt : i.toNat<vs.length:=by omega
   have hxi : xs[i.toNat]=x:=by rw [List.getElem?_eq_getElem h1] at hx; simpa using hx
   have hrx : Rep c x vs[i.toNat]:=hxi ▸ cR.get i.toNat h1 hlt
   have hcell:=AgJ hok hrx
   have hces:=hcell.length
   obtain ⟨g1,g2⟩:=cE i.toNat hlt
   have hes' : es'=es:=by
    rw [← g1,← hes,← hces]; simp
   subst hes'
   have hi2 : i<(vs.length : Int):=by omega
   have hcell2 : AbH w.heap b (off+i.toNat*es') vs[i.toNat].cells.toList:=by
    have:=g2; rwa [hh] at this
   refine ⟨.pointer (some ⟨b,off+i.toNat*es',none⟩),?_,?_⟩
   ·simp [execOp,ho,hv,r2.1,Instr.indexAt,asIntOf,run_underlying hu,sizeOf,typeInfo,hi,h0,hi2,hsz,Afa]
   ·simp only [Rep]
    exact ⟨b,_,_,rfl,cz,g2,hcell⟩
theorem Abi {c : Cx} {id off es len b base sz : Nat} {full : Bool} {v : Value} (h : Rep c (.slc id off es len full) v) (hl : c.ι id = .live b base sz) :
 ∃ cap o,v = .slice (some ⟨b,o,none⟩) len cap∧(0<cap→o=base+off)∧len≤cap∧cap≤maxLen∧base+off+cap*es≤sz∧(full=true→cap=len):=by
 simp only [Rep] at h; exact h.2.2.2 b base sz hl
theorem AkU {P : Program} {o : Oper} {s : Nat→AV} {H : Aah} {N : Nat} (hc : Aak o=true) (t : TypeId) (y z : Operand) (ho : o.op = .indexAddr t y z) (id off es len : Nat) (full : Bool) (hy : ev s y = .slc id off es len full)
 (hid : id<N) (obj : Aan) (hob : H id=some obj) (hne : obj ≠ .grow []) (k : IntKind) (i : Int) (hz : ev s z = .int k i) (e by_ : Nat) (hE : Aa9 P t=some (e,es,by_)) (h0 : 0≤i) (h1 : i.toNat<len) :
 Aay P o s H N (.ptr id (off+i.toNat*es)) H N [id] [] :=
 Aay.read [id] (fun i h=>by simp at h; omega) fun n c s1 H1 a w hrel hu hT=>by
  have r1:=Aaw hrel hu hc (x:=y) (by simp [ho,Op.operands])
  have r2:=Aaw hrel hu hc (x:=z) (by simp [ho,Op.operands])
  rw [hy] at r1
  rw [hz] at r2
  simp only [Rep] at r2
  obtain ⟨ii,hu',hi,hsz,_⟩:=AbU hE
  obtain ⟨b,base,sz,hl,hor⟩:=hrel.hr.live_of ((hT id (by simp)).trans hob) hne
  obtain ⟨cap,o',hv,ho',c1,c2,c3,_⟩:=Abi r1 hl
  have : o'=base+off:=ho' (by omega)
  subst this
  have hi2 : i<(len : Int):=by omega
  refine ⟨.pointer (some ⟨b,base+(off+i.toNat*es),none⟩),?_,Agh hl⟩
  simp [execOp,ho,hv,r2.1,Instr.indexAt,asIntOf,run_underlying hu',sizeOf,typeInfo,hi,h0,hi2,hsz,Afa,Nat.add_assoc]
theorem Ajl {P : Program} {o : Oper} {s : Nat→AV} {H : Aah} {N : Nat} (hc : Aak o=true) (t : TypeId) (y z : Operand) (ho : o.op = .indexAddr t y z) (cs : List AV) (hy : ev s y = .cptr cs)
 (k : IntKind) (i : Int) (hz : ev s z = .int k i) (m es : Nat) (hE : Aei P t=some (m,es)) (h0 : 0≤i) (h1 : i<m) : Aay P o s H N (.cptr (cs.drop (i.toNat*es))) H N [] [] :=
 Aay.pure hc fun ρ w c hh hrep=>by
  have r1:=hrep y (by simp [ho,Op.operands])
  have r2:=hrep z (by simp [ho,Op.operands])
  rw [hy] at r1
  rw [hz] at r2
  simp only [Rep] at r1 r2
  obtain ⟨e,ii,hu,hi,hsz⟩:=Ag1 hE
  obtain ⟨b,off,vs,hv,hz,hca,hr⟩:=r1
  refine ⟨.pointer (some ⟨b,off+i.toNat*es,none⟩),by simp [execOp,ho,hv,r2.1,Instr.indexAt,asIntOf,run_underlying hu,Instr.sureAddr,sizeOf,typeInfo,hi,h0,h1,hsz,Afa],?_⟩
  simp only [Rep]
  exact ⟨b,_,vs.drop _,rfl,hz,hca.drop _,hr.drop _⟩
theorem Ajk {P : Program} {o : Oper} {s : Nat→AV} {H : Aah} {N : Nat} (hc : Aak o=true) (t : TypeId) (y z : Operand) (ho : o.op = .indexAddr t y z) (id off : Nat) (hy : ev s y = .ptr id off) (hid : id<N)
 (obj : Aan) (hob : H id=some obj) (hne : obj ≠ .grow []) (k : IntKind) (i : Int) (hz : ev s z = .int k i) (m es : Nat) (hE : Aei P t=some (m,es)) (h0 : 0≤i) (h1 : i<m) :
 Aay P o s H N (.ptr id (off+i.toNat*es)) H N [id] [] :=
 Aay.read [id] (fun i h=>by simp at h; omega) fun n c s1 H1 a w hrel hu hT=>by
  have r1:=Aaw hrel hu hc (x:=y) (by simp [ho,Op.operands])
  have r2:=Aaw hrel hu hc (x:=z) (by simp [ho,Op.operands])
  rw [hy] at r1
  rw [hz] at r2
  simp only [Rep] at r2
  obtain ⟨e,ii,hu',hi,hsz⟩:=Ag1 hE
  obtain ⟨b,base,sz,hl,hor⟩:=hrel.hr.live_of ((hT id (by simp)).trans hob) hne
  have hv:=AcG r1 hl
  refine ⟨.pointer (some ⟨b,base+(off+i.toNat*es),none⟩),?_,Agh hl⟩
  simp [execOp,ho,hv,r2.1,Instr.indexAt,asIntOf,run_underlying hu',Instr.sureAddr,sizeOf,typeInfo,hi,h0,h1,hsz,Afa,Nat.add_assoc]
theorem Aka {P : Program} {o : Oper} {s : Nat→AV} {H : Aah} {N : Nat} (hc : Aak o=true) (y : Operand) (i : Nat) (ho : o.op = .extract y i) (xs : List AV) (hy : ev s y = .tup xs) (x : AV) (hx : xs[i]? = some x) :
 Aay P o s H N x H N [] [] :=
 Aay.pure hc fun ρ w c hh hrep=>by
  have h1:=hrep y (by simp [ho,Op.operands])
  rw [hy] at h1
  simp only [Rep] at h1
  obtain ⟨vs,hv,hr⟩:=h1
  have hl:=hr.length
  obtain ⟨hlt,rfl⟩:=List.getElem?_eq_some_iff.1 hx
  have hlt' : i<vs.size:=by simp at hl; omega
  refine ⟨vs[i],?_,?_⟩
  ·simp [execOp,ho,hv,Instr.extract,hlt']
  ·have:=hr.get i hlt (by simpa using hlt')
   simpa using this
theorem Aji {P : Program} {o : Oper} {s : Nat→AV} {H : Aah} {N : Nat} (hc : Aak o=true) (f : FuncId) (caps : Array Operand) (ho : o.op = .makeFunc (.func f) #[] caps) :
 Aay P o s H N (.fn f (caps.toList.map (ev s))) H N [] [] :=
 Aay.pure hc fun ρ w c hh hrep=>by
  refine ⟨.func (.func f) #[] (caps.map ρ),by simp [execOp,ho,Instr.makeFunc],?_⟩
  simp only [Rep]
  refine ⟨_,rfl,?_⟩
  have : ∀ l : List Operand,(∀ y ∈ l,Rep c (ev s y) (ρ y))→AaF c (l.map (ev s)) (l.map ρ):=by
   intro l
   induction l with
   | nil=>simp [AaF]
   | cons y l ih =>
    intro h
    simp only [List.map_cons,AaF]
    exact ⟨_,_,rfl,h y (by simp),ih fun z hz=>h z (by simp [hz])⟩
  simpa using this caps.toList fun y hy=>hrep y (by simpa [ho,Op.operands] using hy)
end Go.Abs
