import Derived.Test.YtelffnegemdicaaMdtLay4
set_option linter.unusedVariables false
set_option linter.unusedSimpArgs false
namespace Go.Abs
open Go.RowKit (Below)
theorem AfT (b off j : Nat) : (⟨b,off,none⟩ : Addr).add j=⟨b,off+j,none⟩:=by
 unfold Addr.add; split <;> simp_all
theorem Ac0 {P : Program} {w : World} {b off : Nat} {vs : List Value} (h : Aa4 w.heap b off vs) : (loadCells ⟨b,off,none⟩ vs.length).run P w = .ok vs.toArray w:=by
 refine run_loadCells_list w ⟨b,off,none⟩ vs fun j v hj=>?_
 obtain ⟨hlt,rfl⟩:=List.getElem?_eq_some_iff.1 hj
 rw [AfT,cell?_eq]
 exact h j hlt
theorem AgI (w : World) (b o k : Nat) (v : Value) (hk : k≠b) : (w.setCell ⟨b,o,none⟩ v).heap[k]? = w.heap[k]?:=by
 simp only [World.setCell,Array.getElem?_modify]
 rw [if_neg (by simpa using fun e=>hk e.symm)]
theorem Agq (w : World) (b o : Nat) (v : Value) {cur : Array Value} {T : TypeId} {fr : Nat×Nat} (h : w.heap[b]? = some (.cells cur T fr)) :
 (w.setCell ⟨b,o,none⟩ v).heap[b]? = some (.cells (cur.setIfInBounds o v) T fr):=by
 simp [World.setCell,Array.getElem?_modify,h]
theorem Amf {w : World} {b : Nat} {cur : Array Value} {T : TypeId} {fr : Nat×Nat} (h : w.heap[b]? = some (.cells cur T fr)) (hf : Ag7 cur.size fr) {o : Nat} (ho : o<cur.size) : w.frozen? ⟨b,o,none⟩=false:=by
 have:=hf.2 o ho
 simp only [World.frozen?,h]
 simpa using this
structure Ak7 (w w' : World) (b : Nat) (cur : Array Value) (T : TypeId) (fr : Nat×Nat) (lo : Nat) (vs : List Value) : Prop where
 size : w'.heap.size=w.heap.size
 other : ∀ k,k≠b→w'.heap[k]? = w.heap[k]?
 block : ∃ cur',w'.heap[b]? = some (.cells cur' T fr)∧cur'.size=cur.size∧(∀ i (h : i<vs.length),cur'[lo+i]? = some vs[i])∧∀ j,(j<lo∨lo+vs.length≤j)→cur'[j]? = cur[j]?
 os : w'.os=w.os
 tape : w'.tape=w.tape
 output : w'.output=w.output
theorem Ab2 {P : Program} {b off : Nat} {T : TypeId} {fr : Nat×Nat} : ∀ (vs : List Value) (i : Nat) (cur : Array Value) (w : World),w.heap[b]? = some (.cells cur T fr)→Ag7 cur.size fr →
 off+i+vs.length≤cur.size→(∀ v ∈ vs,v.oneCell'=true)→∃ w',(storeCells ⟨b,off,none⟩ vs i).run P w = .ok () w'∧Ak7 w w' b cur T fr (off+i) vs
 | [],i,cur,w,h,_,_,_=>⟨w,rfl,rfl,fun _ _=>rfl,⟨cur,h,rfl,fun _ h=>by simp at h,fun _ _=>rfl⟩,rfl,rfl,rfl⟩
 | v::vs,i,cur,w,h,hf,hl,h1=>by
  simp only [List.length_cons] at hl
  have hlt : off+i<cur.size:=by omega
  obtain ⟨w',hr,S⟩:=Ab2 (P:=P) (off:=off) vs (i+1) (cur.setIfInBounds (off+i) v) (w.setCell ⟨b,off+i,none⟩ v) (Agq w b (off+i) v h) (by simpa using hf) (by simp; omega) (fun x hx=>h1 x (by simp [hx]))
  have hc : w.cell? ⟨b,off+i,none⟩=some cur[off+i]:=by rw [cell?_eq]; simp [AbF,h,hlt]
  refine ⟨w',?_,?_⟩
  ·simp only [storeCells,Sem.run_bind,AfT,run_store P w _ v .plain (h1 v (by simp)),hc,Amf h hf hlt,Result.andThen_ok,Bool.false_eq_true,if_false]
   exact hr
  ·obtain ⟨cur',e1,e2,e3,e4⟩:=S.block
   refine ⟨by rw [S.size]; simp,fun k hk=>(S.other k hk).trans (AgI w b (off+i) k v hk),⟨cur',e1,by simpa using e2,?_,?_⟩,S.os,S.tape,S.output⟩
   ·intro j hj
    cases j with
    | zero =>
     rw [Nat.add_zero,e4 (off+i) (.inl (by omega))]
     simp [hlt]
    | succ j =>
     have:=e3 j (by simpa using hj)
     rw [show off+(i+1)+j=off+i+(j+1) by omega] at this
     simpa using this
   ·intro j hj
    simp only [List.length_cons] at hj
    rw [e4 j (by omega),Array.getElem?_setIfInBounds_ne (by omega)]
def Aeu (P : Program) (t : TypeId) (cs : List AV) : Option AV :=
 match Acc P t with
 | some false=>cs.head?
 | some true=>match Abd P t with
  | some n=>if n≤cs.length∧0<n then some (.agg (cs.take n)) else none
  | none=>none
 | none=>none
theorem AfB {P : Program} {w : World} {t : TypeId} {b : Bool} (h : Acc P t=some b) : (isAgg t).run P w = .ok b w:=by
 unfold Acc at h
 unfold isAgg
 cases hu : P.underlying t with
 | none=>rw [hu] at h; cases h
 | some d=>rw [hu] at h; cases d <;> simp_all [run_underlying hu]
theorem Ad3 {P : Program} {w : World} {t n : Nat} (h : Abd P t=some n) : (sizeOf t).run P w = .ok n w:=by
 unfold Abd at h
 cases hi : P.info? t with
 | none=>rw [hi] at h; cases h
 | some i=>rw [hi] at h; simp at h; simp [sizeOf,typeInfo,hi,h]
theorem AeR {P : Program} {w : World} {c : Cx} {t b off : Nat} {vs : List Value} {cs : List AV} {x : AV} (hc : Aa4 w.heap b off vs) (hr : AaF c cs vs) (hx : Aeu P t cs=some x) :
 ∃ v,(loadVar t ⟨b,off,none⟩).run P w = .ok v w∧Rep c x v:=by
 unfold Aeu at hx
 cases hta : Acc P t with
 | none=>rw [hta] at hx; cases hx
 | some ag =>
  rw [hta] at hx
  cases ag with
  | false =>
   simp only at hx
   cases cs with
   | nil=>cases hx
   | cons y cs =>
    simp only [List.head?_cons,Option.some.injEq] at hx
    subst hx
    simp only [AaF] at hr
    obtain ⟨v,rest,rfl,hv,_⟩:=hr
    have h0:=hc 0 (by simp)
    simp only [Nat.add_zero,List.getElem_cons_zero] at h0
    refine ⟨v,?_,hv⟩
    simp [loadVar,AfB hta,run_load,cell?_eq,h0]
  | true =>
   simp only at hx
   cases hs : Abd P t with
   | none=>rw [hs] at hx; cases hx
   | some n =>
    rw [hs] at hx
    simp only at hx
    split at hx
    ·rename_i hn
     simp only [Option.some.injEq] at hx
     subst hx
     have hlen:=hr.length
     obtain ⟨hn,hn0⟩:=hn
     have hn' : (vs.take n).length=n:=by simp; omega
     have:=Ac0 (P:=P) (hc.take n)
     rw [hn'] at this
     refine ⟨.agg (vs.take n).toArray,by simp [loadVar,AfB hta,Ad3 hs,this],?_⟩
     simp only [Rep]
     exact ⟨_,rfl,by simpa using hr.take n⟩
    ·cases hx
theorem Amb {P : Program} {o : Oper} {s : Nat→AV} {H : Aai} {N : Nat} (hc : Aal o=true) (t : TypeId) (y : Operand) (ho : o.op = .load t y) (cs : List AV) (hy : ev s y = .cptr cs) (x : AV)
 (hx : Aeu P t cs=some x) : Aau P o s H N x H N [] [] :=
 Aau.pure hc fun ρ w c hh hrep=>by
  have h1:=hrep y (by simp [ho,Op.operands])
  rw [hy] at h1
  simp only [Rep] at h1
  obtain ⟨b,off,vs,hv,_,hca,hr⟩:=h1
  rw [hh] at hca
  obtain ⟨v,hv2,hx2⟩:=AeR (P:=P) (t:=t) hca hr hx
  exact ⟨v,by simp [execOp,ho,hv,Instr.loadAt,Instr.sureAddr,hv2],hx2⟩
def Aah.cs? : Aah→Option (List AV)
 | .cells cs=>some cs
 | .grow cs=>some cs
 | .mp _=>none
 | .it _ _=>none
def Aah.with (o : Aah) (cs : List AV) : Aah :=
 match o with
 | .grow _ => .grow cs
 | _ => .cells cs
theorem AbV.cs {c : Cx} {o : Aah} {cs : List AV} (ho : o.cs? = some cs) {b base sz : Nat} (h : AbV c o b base sz) :
 ∃ cur T fr vs,c.h[b]? = some (.cells cur T fr)∧cur.size=sz∧Ag7 sz fr∧base+cs.length≤sz∧AaF c cs vs∧Aa4 c.h b base vs:=by
 cases o <;> simp only [Aah.cs?,Option.some.injEq] at ho
 ·subst ho; exact h
 ·subst ho; exact h.2
 all_goals cases ho
theorem Ab8 {c : Cx} {id off b base sz : Nat} {v : Value} (h : Rep c (.ptr id off) v) (hl : c.ι id = .live b base sz) : v = .pointer (some ⟨b,base+off,none⟩):=by
 simp only [Rep] at h; exact h.2.2 b base sz hl
theorem Ama {P : Program} {o : Oper} {s : Nat→AV} {H : Aai} {N : Nat} (hc : Aal o=true) (t : TypeId) (y : Operand) (ho : o.op = .load t y) (id off : Nat) (hy : ev s y = .ptr id off) (hid : id<N)
 (obj : Aah) (hob : H id=some obj) (cs : List AV) (hcs : obj.cs? = some cs) (x : AV) (hx : Aeu P t (cs.drop off)=some x) : Aau P o s H N x H N [id] [] :=
 Aau.read [id] (fun i h=>by simp at h; omega) fun n c s1 H1 a w hrel hu hT=>by
  have h1:=Aas hrel hu hc (x:=y) (by simp [ho,Op.operands])
  rw [hy] at h1
  have hne : obj ≠ .grow []:=by
   intro e; subst e
   simp only [Aah.cs?,Option.some.injEq] at hcs
   subst hcs
   unfold Aeu at hx
   simp only [List.drop_nil,List.head?_nil,List.length_nil,Nat.le_zero_eq] at hx
   split at hx
   ·cases hx
   ·split at hx
    ·split at hx
     ·omega
     ·cases hx
    ·cases hx
   ·cases hx
  obtain ⟨b,base,sz,hl,hor⟩:=hrel.hr.live_of ((hT id (by simp)).trans hob) hne
  have hv:=Ab8 h1 hl
  obtain ⟨cur,T,fr,vs,e1,e2,e3,e4,e5,e6⟩:=hor.cs hcs
  have hh:=hrel.hr.heap
  rw [hh] at e6
  obtain ⟨v,hv2,hx2⟩:=AeR (P:=P) (w:=w) (t:=t) (e6.drop off) (e5.drop off) hx
  exact ⟨v,by simp [execOp,ho,hv,Instr.loadAt,Instr.sureAddr,hv2],hx2⟩
def setR (cs : List AV) (off : Nat) (xs : List AV) : List AV :=
 match xs with
 | [x]=>cs.set off x
 | xs=>cs.take off++xs++cs.drop (off+xs.length)
theorem Afx (cs : List AV) (off : Nat) (xs : List AV) (h : off+xs.length≤cs.length) : setR cs off xs=cs.take off++xs++cs.drop (off+xs.length):=by
 unfold setR
 split
 ·rename_i x
  simp only [List.length_singleton] at h ⊢
  rw [List.set_eq_take_append_cons_drop,if_pos (by omega)]
  simp
 ·rfl
theorem Afw (cs : List AV) (off : Nat) (xs : List AV) (h : off+xs.length≤cs.length) : (setR cs off xs).length=cs.length:=by
 rw [Afx cs off xs h]; simp; omega
def AV.fits (P : Program) (t : TypeId) (x : AV) : Bool :=
 (match x with | .agg cs=>cs.all AV.one | x=>x.one)&&(Abd P t==some x.cells.length)
theorem AmG {P : Program} {t : TypeId} {x : AV} (h : x.fits P t=true) {c : Cx} {v : Value} (hr : Rep c x v) :
 AaF c x.cells v.cells.toList∧(∀ u ∈ v.cells.toList,u.oneCell'=true)∧Abd P t=some v.cells.size∧v.cells.size=x.cells.length:=by
 simp only [AV.fits,Bool.and_eq_true,beq_iff_eq] at h
 obtain ⟨h1,h2⟩:=h
 have hk : AaF c x.cells v.cells.toList:=by
  refine hr.cells ?_
  cases x <;> first | exact .inr ⟨_,rfl⟩ | exact .inl h1
 have hl:=hk.length
 refine ⟨hk,?_,?_,?_⟩
 ·refine hk.oneCell ?_
  cases x <;> first | exact h1 | simpa [AV.cells] using h1
 ·rw [h2,← hl]; simp
 ·rw [← hl]; simp
theorem AkF {P : Program} {w : World} {t b off : Nat} {v : Value} (hs : Abd P t=some v.cells.size) {cur : Array Value} {T : TypeId} {fr : Nat×Nat} (hb : w.heap[b]? = some (.cells cur T fr))
 (hf : Ag7 cur.size fr) (hl : off+v.cells.size≤cur.size) (h1 : ∀ u ∈ v.cells.toList,u.oneCell'=true) :
 ∃ w',(storeVar t ⟨b,off,none⟩ v).run P w = .ok () w'∧Ak7 w w' b cur T fr off v.cells.toList:=by
 obtain ⟨w',hr,S⟩:=Ab2 (P:=P) (off:=off) v.cells.toList 0 cur w hb hf (by simpa using hl) h1
 refine ⟨w',?_,S⟩
 simp [storeVar,Ad3 hs,hr]
theorem AfG {c : Cx} {w w1 : World} (hh : c.h=w.heap) {o : Aah} {cs : List AV} (ho : o.cs? = some cs) {b base sz off : Nat} (hor : AbV c o b base sz) {vs : List Value} {xs : List AV}
 (hl : off+xs.length≤cs.length) (hx : AaF c xs vs) {cur : Array Value} {T : TypeId} {fr : Nat×Nat} (hb : w.heap[b]? = some (.cells cur T fr)) (S : Ak7 w w1 b cur T fr (base+off) vs)
 (L : c.Le ⟨c.Z,c.ι,w1.heap⟩) : AbV ⟨c.Z,c.ι,w1.heap⟩ (o.with (setR cs off xs)) b base sz:=by
 obtain ⟨cur0,T0,fr0,us,e1,e2,e3,e4,e5,e6⟩:=hor.cs ho
 rw [hh,hb] at e1
 cases e1
 obtain ⟨cur',k1,k2,k3,k4⟩:=S.block
 have hvl:=hx.length
 have hul:=e5.length
 cases o with
 | mp es=>cases ho
 | it _ _=>cases ho
 | cells cs0 =>
  simp only [Aah.cs?,Option.some.injEq] at ho; subst ho
  refine ⟨cur',T,fr,us.take off++vs++us.drop (off+vs.length),k1,by omega,e3,by rw [Afw _ _ _ hl]; exact e4,?_,?_⟩
  ·rw [Afx _ _ _ hl,hvl]
   exact (((e5.take off).append hx).append (e5.drop _)).mono L
  ·exact key us vs off base cs0.length (by omega) (by omega) e6 k1 k3 k4 (hh ▸ hb)
 | grow cs0 =>
  simp only [Aah.cs?,Option.some.injEq] at ho; subst ho
  refine ⟨?_,cur',T,fr,us.take off++vs++us.drop (off+vs.length),k1,by omega,e3,by rw [Afw _ _ _ hl]; exact e4,?_,?_⟩
  ·intro e
   have:=Afw cs0 off xs hl
   rw [e] at this
   have h0:=hor.1
   exact h0 (List.eq_nil_of_length_eq_zero (by simpa using this.symm))
  ·rw [Afx _ _ _ hl,hvl]
   exact (((e5.take off).append hx).append (e5.drop _)).mono L
  ·exact key us vs off base cs0.length (by omega) (by omega) e6 k1 k3 k4 (hh ▸ hb)
where
 key {h h' : Array Obj} {b : Nat} {cur cur' : Array Value} {T : TypeId} {fr : Nat×Nat} (us vs : List Value) (off base m : Nat) (hm : us.length=m) (hl : off+vs.length≤m) (e6 : Aa4 h b base us) (k1 : h'[b]? = some (.cells cur' T fr))
  (k3 : ∀ i (h : i<vs.length),cur'[base+off+i]? = some vs[i]) (k4 : ∀ j,(j<base+off∨base+off+vs.length≤j)→cur'[j]? = cur[j]?) (hb : h[b]? = some (.cells cur T fr)) :
  Aa4 h' b base (us.take off++vs++us.drop (off+vs.length)):=by
  have old : ∀ j (hj : j<us.length),(j<off∨off+vs.length≤j)→AbF h' b (base+j)=some us[j]:=by
   intro j hj hor
   have:=e6 j hj
   simp only [AbF,hb,k1] at this ⊢
   rw [k4 (base+j) (by omega)]; exact this
  refine Aa4.append (Aa4.append ?_ ?_) ?_
  ·intro i hi
   simp only [List.length_take] at hi
   rw [List.getElem_take]
   exact old i (by omega) (.inl (by omega))
  ·intro i hi
   have:=k3 i hi
   simp only [AbF,k1,List.length_take]
   rw [show base+min off us.length+i=base+off+i by omega]; exact this
  ·intro i hi
   simp only [List.length_drop] at hi
   rw [List.getElem_drop]
   have:=old (off+vs.length+i) (by omega) (.inr (by omega))
   simp only [List.length_append,List.length_take]
   rw [show base+(min off us.length+vs.length)+i=base+(off+vs.length+i) by omega]; exact this
theorem AnN {P : Program} {o : Oper} {s : Nat→AV} {H : Aai} {N : Nat} (hc : Aal o=true) (t : TypeId) (y z : Operand) (ho : o.op = .store t y z) (id off : Nat) (hy : ev s y = .ptr id off) (hid : id<N)
 (obj : Aah) (hob : H id=some obj) (cs : List AV) (hcs : obj.cs? = some cs) (hfit : (ev s z).fits P t=true) (hl : off+(ev s z).cells.length≤cs.length) (hl0 : cs≠[]) :
 Aau P o s H N .skip (upd H id (some (obj.with (setR cs off (ev s z).cells)))) N [id] [id]:=by
 have hne : obj ≠ .grow []:=by
  intro e; subst e
  simp only [Aah.cs?,Option.some.injEq] at hcs
  exact hl0 hcs.symm
 refine Aau.write id obj _ hid hob hne .skip [id] (fun i h=>by simp at h; omega) (by simp) fun n c s1 H1 a w hrel hu hT b base sz hlive hor=>?_
 have h1:=Aas hrel hu hc (x:=y) (by simp [ho,Op.operands])
 have h2:=Aas hrel hu hc (x:=z) (by simp [ho,Op.operands])
 rw [hy] at h1
 have hv:=Ab8 h1 hlive
 obtain ⟨f1,f2,f3,f4⟩:=AmG hfit h2
 obtain ⟨cur,T,fr,vs,e1,e2,e3,e4,e5,e6⟩:=hor.cs hcs
 have hh:=hrel.hr.heap
 rw [hh] at e1
 obtain ⟨w',hr,S⟩:=AkF (P:=P) (w:=w) (off:=base+off) f3 e1 (by rw [e2]; exact e3) (by omega) f2
 refine ⟨w',.skip,Go.undef,.inl ⟨rfl,rfl⟩,?_,S.size,S.other,S.os,S.tape,S.output,fun L=>⟨AfG hh hcs hor hl f1 e1 S L,by simp [Rep]⟩⟩
 simp [execOp,ho,hv,Instr.storeAt,Instr.sureAddr,hr]
theorem Ai1 (n : Nat) : Ag7 n (0,0):=⟨Nat.le_refl _,fun o _ h=>by omega⟩
theorem AfY {c : Cx} {w : World} {N : Nat} {xs : List AV} {cells : Array Value} {T : TypeId} (hr : AaF c xs cells.toList) (L : c.Le ⟨c.Z,upd c.ι N (.live w.heap.size 0 cells.size),w.heap.push (.cells cells T)⟩) :
 AbV ⟨c.Z,upd c.ι N (.live w.heap.size 0 cells.size),w.heap.push (.cells cells T)⟩ (.cells xs) w.heap.size 0 cells.size:=by
 have hl:=hr.length
 refine ⟨cells,T,(0,0),cells.toList,by simp,rfl,Ai1 _,by simp at hl; omega,hr.mono L,fun i hi=>?_⟩
 simp only [AbF,Array.getElem?_push_size,Nat.zero_add]
 simp at hi
 simp [hi]
theorem AqP {P : Program} {o : Oper} {s : Nat→AV} {H : Aai} {N : Nat} (hc : Aal o=true) (t : TypeId) (y : Operand) (ho : o.op = .box t y) (hfit : (ev s y).fits P t=true) :
 Aau P o s H N (.ptr N 0) (upd H N (some (.cells (ev s y).cells))) (N+1) [] [N]:=by
 refine Aau.new (.cells (ev s y).cells) [] (fun _ h=>by simp at h) fun n c s1 H1 a w hrel hu _ hun=>?_
 have h1:=Aas hrel hu hc (x:=y) (by simp [ho,Op.operands])
 obtain ⟨f1,f2,f3,f4⟩:=AmG hfit h1
 refine ⟨.pointer (some ⟨w.heap.size,0,none⟩),.cells (a.eval y).cells t,w.alloc (.cells (a.eval y).cells t),0,(a.eval y).cells.size,by simp [execOp,ho,Instr.box,newVar,newRow],rfl,rfl,rfl,rfl,fun L=>⟨AfY f1 L,?_⟩⟩
 simp only [Rep,AbZ,AeX.live.injEq]
 refine ⟨by simp,rfl,?_⟩
 rintro b base sz ⟨rfl,rfl,rfl⟩
 rfl
theorem Ael {P : Program} {t : TypeId} {z : List AV} (h : Ab1 P t=some z) : ∃ i v,P.info? t=some i∧i.zero=some v∧okV v=true∧v.cells.size=i.size∧z=v.cells.toList.map ofS:=by
 unfold Ab1 at h
 cases hi : P.info? t with
 | none=>rw [hi] at h; cases h
 | some i =>
  rw [hi] at h
  simp only [Option.bind_some] at h
  cases hz : i.zero with
  | none=>rw [hz] at h; cases h
  | some v =>
   rw [hz] at h
   simp only [Option.map_some,Option.getD_some] at h
   split at h
   ·rename_i hk
    simp only [Bool.and_eq_true,decide_eq_true_eq] at hk
    exact ⟨i,v,rfl,hz,hk.1,hk.2,by simpa using h.symm⟩
   ·cases h
theorem AfF {v : Value} (h : okV v=true) : v.cells.toList.all okS=true:=by
 unfold okV at h
 split at h
 ·exact h
 ·cases v <;> simp_all [Value.cells]
theorem AnW {P : Program} {o : Oper} {s : Nat→AV} {H : Aai} {N : Nat} (t : TypeId) (ho : o.op = .alloc t) (z : List AV) (hz : Ab1 P t=some z) :
 Aau P o s H N (.ptr N 0) (upd H N (some (.cells z))) (N+1) [] [N]:=by
 refine Aau.new (.cells z) [] (fun _ h=>by simp at h) fun n c s1 H1 a w hrel hu _ hun=>?_
 obtain ⟨i,v,hi,hzv,hok,hsz,rfl⟩:=Ael hz
 have f1 : AaF c (v.cells.toList.map ofS) v.cells.toList:=AfX c _ (AfF hok)
 refine ⟨.pointer (some ⟨w.heap.size,0,none⟩),.cells v.cells t,w.alloc (.cells v.cells t),0,v.cells.size,by simp [execOp,ho,Instr.alloc,zeroValue,typeInfo,hi,hzv,newVar,newRow],rfl,rfl,rfl,rfl,fun L=>⟨AfY f1 L,?_⟩⟩
 simp only [Rep,AbZ,AeX.live.injEq]
 refine ⟨by simp,rfl,?_⟩
 rintro b base sz ⟨rfl,rfl,rfl⟩
 rfl
theorem Ali {P : Program} {t f d : Nat} (h : AcD P t f=some d) : ∃ fs g i,P.underlying t=some (.struct fs)∧fs[f]? = some g∧P.info? g.type=some i∧i.size≠0∧d=g.offset:=by
 unfold AcD at h
 split at h
 ·rename_i fs hu
  split at h
  ·rename_i g hg
   split at h
   ·rename_i i hi
    split at h
    ·cases h
    ·exact ⟨fs,g,i,hu,hg,hi,by assumption,by simpa using h.symm⟩
   ·cases h
  ·cases h
 ·cases h
theorem Ahk {P : Program} {w : World} {t f d b off : Nat} (h : AcD P t f=some d) : (Instr.fieldAt t (.pointer (some ⟨b,off,none⟩)) f).run P w = .ok (.pointer (some ⟨b,off+d,none⟩)) w:=by
 obtain ⟨fs,g,i,hu,hg,hi,hs,rfl⟩:=Ali h
 simp [Instr.fieldAt,run_underlying hu,hg,Instr.sureAddr,fieldPlace,sizeOf,typeInfo,hi,hs,AfT]
theorem AlW {P : Program} {o : Oper} {s : Nat→AV} {H : Aai} {N : Nat} (hc : Aal o=true) (t : TypeId) (y : Operand) (f : Nat) (ho : o.op = .fieldAddr t y f) (cs : List AV) (hy : ev s y = .cptr cs) (d : Nat)
 (hd : AcD P t f=some d) : Aau P o s H N (.cptr (cs.drop d)) H N [] [] :=
 Aau.pure hc fun ρ w c hh hrep=>by
  have h1:=hrep y (by simp [ho,Op.operands])
  rw [hy] at h1
  simp only [Rep] at h1
  obtain ⟨b,off,vs,hv,hz,hca,hr⟩:=h1
  refine ⟨.pointer (some ⟨b,off+d,none⟩),by simp [execOp,ho,hv,Ahk hd],?_⟩
  simp only [Rep]
  exact ⟨b,off+d,vs.drop d,rfl,hz,hca.drop d,hr.drop d⟩
theorem Ags {c : Cx} {id off b base sz : Nat} (hl : c.ι id = .live b base sz) : Rep c (.ptr id off) (.pointer (some ⟨b,base+off,none⟩)):=by
 simp only [Rep]
 refine ⟨by rw [hl]; simp,rfl,fun b' base' sz' h=>?_⟩
 rw [hl] at h; cases h; rfl
theorem AlV {P : Program} {o : Oper} {s : Nat→AV} {H : Aai} {N : Nat} (hc : Aal o=true) (t : TypeId) (y : Operand) (f : Nat) (ho : o.op = .fieldAddr t y f) (id off : Nat) (hy : ev s y = .ptr id off) (hid : id<N)
 (obj : Aah) (hob : H id=some obj) (hne : obj ≠ .grow []) (d : Nat) (hd : AcD P t f=some d) : Aau P o s H N (.ptr id (off+d)) H N [id] [] :=
 Aau.read [id] (fun i h=>by simp at h; omega) fun n c s1 H1 a w hrel hu hT=>by
  have h1:=Aas hrel hu hc (x:=y) (by simp [ho,Op.operands])
  rw [hy] at h1
  obtain ⟨b,base,sz,hl,hor⟩:=hrel.hr.live_of ((hT id (by simp)).trans hob) hne
  have hv:=Ab8 h1 hl
  refine ⟨.pointer (some ⟨b,base+(off+d),none⟩),?_,Ags hl⟩
  simp [execOp,ho,hv,Ahk hd,Nat.add_assoc]
theorem AiV {P : Program} {o : Oper} {s : Nat→AV} {H : Aai} {N : Nat} (hc : Aal o=true) (y : Operand) (ho : o.op = .nilCheck y) (cs : List AV) (hy : ev s y = .cptr cs) : Aau P o s H N (.cptr cs) H N [] [] :=
 Aau.pure hc fun ρ w c hh hrep=>by
  have h1:=hrep y (by simp [ho,Op.operands])
  rw [hy] at h1
  refine ⟨ρ y,?_,h1⟩
  simp only [Rep] at h1
  obtain ⟨b,off,vs,hv,_⟩:=h1
  simp [execOp,ho,hv]
theorem AiU {P : Program} {o : Oper} {s : Nat→AV} {H : Aai} {N : Nat} (hc : Aal o=true) (y : Operand) (ho : o.op = .nilCheck y) (f : FuncId) (cs : List AV) (hy : ev s y = .fn f cs) : Aau P o s H N (.fn f cs) H N [] [] :=
 Aau.pure hc fun ρ w c hh hrep=>by
  have h1:=hrep y (by simp [ho,Op.operands])
  rw [hy] at h1
  refine ⟨ρ y,?_,h1⟩
  simp only [Rep] at h1
  obtain ⟨vs,hv,_⟩:=h1
  simp [execOp,ho,hv]
theorem AiT {P : Program} {o : Oper} {s : Nat→AV} {H : Aai} {N : Nat} (hc : Aal o=true) (y : Operand) (ho : o.op = .nilCheck y) (id off : Nat) (hy : ev s y = .ptr id off) (hid : id<N)
 (obj : Aah) (hob : H id=some obj) (hne : obj ≠ .grow []) : Aau P o s H N (.ptr id off) H N [id] [] :=
 Aau.read [id] (fun i h=>by simp at h; omega) fun n c s1 H1 a w hrel hu hT=>by
  have h1:=Aas hrel hu hc (x:=y) (by simp [ho,Op.operands])
  rw [hy] at h1
  obtain ⟨b,base,sz,hl,hor⟩:=hrel.hr.live_of ((hT id (by simp)).trans hob) hne
  have hv:=Ab8 h1 hl
  exact ⟨a.eval y,by simp [execOp,ho,hv],h1⟩
theorem AbT {P : Program} {t : TypeId} {e es by_ : Nat} (h : Aaz P t=some (e,es,by_)) : ∃ i,P.underlying t=some (.slice e)∧P.info? e=some i∧i.size=es∧i.bytes=by_∧∃ z,i.zero=some z∧z.cells.size=es:=by
 unfold Aaz at h
 split at h
 ·rename_i e' hu
  split at h
  ·rename_i i hi
   split at h
   ·rename_i z hz
    split at h
    ·rename_i hs
     simp only [Option.some.injEq,Prod.mk.injEq] at h
     obtain ⟨rfl,rfl,rfl⟩:=h
     exact ⟨i,hu,hi,rfl,rfl,z,hz,hs⟩
    ·cases h
   ·cases h
  ·cases h
 ·cases h
theorem AhD {P : Program} {t : TypeId} {n es : Nat} (h : AfQ P t=some (n,es)) : ∃ e i,P.underlying t=some (.array n e)∧P.info? e=some i∧i.size=es:=by
 unfold AfQ at h
 split at h
 ·rename_i n' e' hu
  cases hi : P.info? e' with
  | none=>rw [hi] at h; cases h
  | some i =>
   rw [hi] at h
   simp only [Option.map_some,Option.some.injEq,Prod.mk.injEq] at h
   obtain ⟨rfl,rfl⟩:=h
   exact ⟨e',i,hu,hi,rfl⟩
 ·cases h
def AV.okc (x : AV) : Bool:=x.one||(match x with | .agg _=>true | _=>false)
theorem AgS {x : AV} (h : x.okc=true) {c : Cx} {v : Value} (hr : Rep c x v) : AaF c x.cells v.cells.toList:=by
 refine hr.cells ?_
 simp only [AV.okc,Bool.or_eq_true] at h
 rcases h with h | h
 ·exact .inl h
 ·cases x <;> simp at h; exact .inr ⟨_,rfl⟩
theorem AlS {P : Program} {o : Oper} {s : Nat→AV} {H : Aai} {N : Nat} (hc : Aal o=true) (t : TypeId) (y z : Operand) (ho : o.op = .indexAddr t y z) (nl fl : Bool) (xs : List AV) (hy : ev s y = .lst nl fl xs)
 (k : IntKind) (i : Int) (hz : ev s z = .int k i) (e es by_ : Nat) (hE : Aaz P t=some (e,es,by_)) (h0 : 0≤i) (h1 : i.toNat<xs.length) (x : AV) (hx : xs[i.toNat]? = some x) (hok : x.okc=true) (hes : x.cells.length=es) :
 Aau P o s H N (.cptr x.cells) H N [] [] :=
 Aau.pure hc fun ρ w c hh hrep=>by
  have r1:=hrep y (by simp [ho,Op.operands])
  have r2:=hrep z (by simp [ho,Op.operands])
  rw [hy] at r1
  rw [hz] at r2
  simp only [Rep] at r1 r2
  obtain ⟨ii,hu,hi,hsz,_⟩:=AbT hE
  rcases r1 with ⟨rfl,_⟩ | ⟨_,ad,b,off,cap,es',vs,hv,c1,c2,_,cz0,cE,cR⟩
  ·simp at h1
  ·have hl:=cR.length
   obtain ⟨rfl,cz⟩:=cz0 (by omega)
   have hlt : i.toNat<vs.length:=by omega
   have hxi : xs[i.toNat]=x:=by rw [List.getElem?_eq_getElem h1] at hx; simpa using hx
   have hrx : Rep c x vs[i.toNat]:=hxi ▸ cR.get i.toNat h1 hlt
   have hcell:=AgS hok hrx
   have hces:=hcell.length
   obtain ⟨g1,g2⟩:=cE i.toNat hlt
   have hes' : es'=es:=by
    rw [← g1,← hes,← hces]; simp
   subst hes'
   have hi2 : i<(vs.length : Int):=by omega
   have hcell2 : Aa4 w.heap b (off+i.toNat*es') vs[i.toNat].cells.toList:=by
    have:=g2; rwa [hh] at this
   refine ⟨.pointer (some ⟨b,off+i.toNat*es',none⟩),?_,?_⟩
   ·simp [execOp,ho,hv,r2.1,Instr.indexAt,asIntOf,run_underlying hu,sizeOf,typeInfo,hi,h0,hi2,hsz,AfT]
   ·simp only [Rep]
    exact ⟨b,_,_,rfl,cz,g2,hcell⟩
theorem Abk {c : Cx} {id off es len b base sz : Nat} {full : Bool} {v : Value} (h : Rep c (.slc id off es len full) v) (hl : c.ι id = .live b base sz) :
 ∃ cap o,v = .slice (some ⟨b,o,none⟩) len cap∧(0<cap→o=base+off)∧len≤cap∧cap≤maxLen∧base+off+cap*es≤sz∧(full=true→cap=len):=by
 simp only [Rep] at h; exact h.2.2.2 b base sz hl
theorem AlR {P : Program} {o : Oper} {s : Nat→AV} {H : Aai} {N : Nat} (hc : Aal o=true) (t : TypeId) (y z : Operand) (ho : o.op = .indexAddr t y z) (id off es len : Nat) (full : Bool) (hy : ev s y = .slc id off es len full)
 (hid : id<N) (obj : Aah) (hob : H id=some obj) (hne : obj ≠ .grow []) (k : IntKind) (i : Int) (hz : ev s z = .int k i) (e by_ : Nat) (hE : Aaz P t=some (e,es,by_)) (h0 : 0≤i) (h1 : i.toNat<len) :
 Aau P o s H N (.ptr id (off+i.toNat*es)) H N [id] [] :=
 Aau.read [id] (fun i h=>by simp at h; omega) fun n c s1 H1 a w hrel hu hT=>by
  have r1:=Aas hrel hu hc (x:=y) (by simp [ho,Op.operands])
  have r2:=Aas hrel hu hc (x:=z) (by simp [ho,Op.operands])
  rw [hy] at r1
  rw [hz] at r2
  simp only [Rep] at r2
  obtain ⟨ii,hu',hi,hsz,_⟩:=AbT hE
  obtain ⟨b,base,sz,hl,hor⟩:=hrel.hr.live_of ((hT id (by simp)).trans hob) hne
  obtain ⟨cap,o',hv,ho',c1,c2,c3,_⟩:=Abk r1 hl
  have : o'=base+off:=ho' (by omega)
  subst this
  have hi2 : i<(len : Int):=by omega
  refine ⟨.pointer (some ⟨b,base+(off+i.toNat*es),none⟩),?_,Ags hl⟩
  simp [execOp,ho,hv,r2.1,Instr.indexAt,asIntOf,run_underlying hu',sizeOf,typeInfo,hi,h0,hi2,hsz,AfT,Nat.add_assoc]
theorem AkN {P : Program} {o : Oper} {s : Nat→AV} {H : Aai} {N : Nat} (hc : Aal o=true) (t : TypeId) (y z : Operand) (ho : o.op = .indexAddr t y z) (cs : List AV) (hy : ev s y = .cptr cs)
 (k : IntKind) (i : Int) (hz : ev s z = .int k i) (m es : Nat) (hE : AfQ P t=some (m,es)) (h0 : 0≤i) (h1 : i<m) : Aau P o s H N (.cptr (cs.drop (i.toNat*es))) H N [] [] :=
 Aau.pure hc fun ρ w c hh hrep=>by
  have r1:=hrep y (by simp [ho,Op.operands])
  have r2:=hrep z (by simp [ho,Op.operands])
  rw [hy] at r1
  rw [hz] at r2
  simp only [Rep] at r1 r2
  obtain ⟨e,ii,hu,hi,hsz⟩:=AhD hE
  obtain ⟨b,off,vs,hv,hz,hca,hr⟩:=r1
  refine ⟨.pointer (some ⟨b,off+i.toNat*es,none⟩),by simp [execOp,ho,hv,r2.1,Instr.indexAt,asIntOf,run_underlying hu,Instr.sureAddr,sizeOf,typeInfo,hi,h0,h1,hsz,AfT],?_⟩
  simp only [Rep]
  exact ⟨b,_,vs.drop _,rfl,hz,hca.drop _,hr.drop _⟩
theorem AkM {P : Program} {o : Oper} {s : Nat→AV} {H : Aai} {N : Nat} (hc : Aal o=true) (t : TypeId) (y z : Operand) (ho : o.op = .indexAddr t y z) (id off : Nat) (hy : ev s y = .ptr id off) (hid : id<N)
 (obj : Aah) (hob : H id=some obj) (hne : obj ≠ .grow []) (k : IntKind) (i : Int) (hz : ev s z = .int k i) (m es : Nat) (hE : AfQ P t=some (m,es)) (h0 : 0≤i) (h1 : i<m) :
 Aau P o s H N (.ptr id (off+i.toNat*es)) H N [id] [] :=
 Aau.read [id] (fun i h=>by simp at h; omega) fun n c s1 H1 a w hrel hu hT=>by
  have r1:=Aas hrel hu hc (x:=y) (by simp [ho,Op.operands])
  have r2:=Aas hrel hu hc (x:=z) (by simp [ho,Op.operands])
  rw [hy] at r1
  rw [hz] at r2
  simp only [Rep] at r2
  obtain ⟨e,ii,hu',hi,hsz⟩:=AhD hE
  obtain ⟨b,base,sz,hl,hor⟩:=hrel.hr.live_of ((hT id (by simp)).trans hob) hne
  have hv:=Ab8 r1 hl
  refine ⟨.pointer (some ⟨b,base+(off+i.toNat*es),none⟩),?_,Ags hl⟩
  simp [execOp,ho,hv,r2.1,Instr.indexAt,asIntOf,run_underlying hu',Instr.sureAddr,sizeOf,typeInfo,hi,h0,h1,hsz,AfT,Nat.add_assoc]
theorem AlX {P : Program} {o : Oper} {s : Nat→AV} {H : Aai} {N : Nat} (hc : Aal o=true) (y : Operand) (i : Nat) (ho : o.op = .extract y i) (xs : List AV) (hy : ev s y = .tup xs) (x : AV) (hx : xs[i]? = some x) :
 Aau P o s H N x H N [] [] :=
 Aau.pure hc fun ρ w c hh hrep=>by
  have h1:=hrep y (by simp [ho,Op.operands])
  rw [hy] at h1
  simp only [Rep] at h1
  obtain ⟨vs,hv,hr⟩:=h1
  have hl:=hr.length
  obtain ⟨hlt,rfl⟩:=List.getElem?_eq_some_iff.1 hx
  have hlt' : i<vs.size:=by simp at hl; omega
  refine ⟨vs[i],?_,?_⟩
  ·simp [execOp,ho,hv,Instr.extract,hlt']
  ·have:=hr.get i hlt (by simpa using hlt')
   simpa using this
theorem AkK {P : Program} {o : Oper} {s : Nat→AV} {H : Aai} {N : Nat} (hc : Aal o=true) (f : FuncId) (caps : Array Operand) (ho : o.op = .makeFunc (.func f) #[] caps) :
 Aau P o s H N (.fn f (caps.toList.map (ev s))) H N [] [] :=
 Aau.pure hc fun ρ w c hh hrep=>by
  refine ⟨.func (.func f) #[] (caps.map ρ),by simp [execOp,ho,Instr.makeFunc],?_⟩
  simp only [Rep]
  refine ⟨_,rfl,?_⟩
  have : ∀ l : List Operand,(∀ y ∈ l,Rep c (ev s y) (ρ y))→AaF c (l.map (ev s)) (l.map ρ):=by
   intro l
   induction l with
   | nil=>simp [AaF]
   | cons y l ih =>
    intro h
    simp only [List.map_cons,AaF]
    exact ⟨_,_,rfl,h y (by simp),ih fun z hz=>h z (by simp [hz])⟩
  simpa using this caps.toList fun y hy=>hrep y (by simpa [ho,Op.operands] using hy)
end Go.Abs
