import Derived.Test.YthiodjlppahmkaaGreatExtLay10
set_option linter.unusedVariables false
set_option linter.unusedSimpArgs false
namespace Go.Abs
open Go.RowKit (Below)
def AaN (P : Program) (f : FuncId) : Bool :=
 match P.funcs[f]? with
 | some fn=>fn.body.isSome && !(fn.name == "runtime.NumGoroutine")
 | none=>false
theorem ArQ {P : Program} {w : World} {ρ : Operand→Value} {o : Oper} {g : Operand} {as : Array Operand} {ts : Array TypeId} (ho : o.op = .call { callee := .value g,args:=as,argTypes:=ts })
 {f : FuncId} {caps : Array Value} (hg : ρ g = .func (.func f) #[] caps) (hc : AaN P f=true) : (execOp ρ o).run P w = .ok (.enter f (as.map ρ++caps)) w:=by
 unfold AaN at hc
 cases hf : P.funcs[f]? with
 | none=>simp [hf] at hc
 | some fn =>
  simp only [hf,Bool.and_eq_true,Bool.not_eq_true'] at hc
  obtain ⟨c,hb⟩:=Option.isSome_iff_exists.1 hc.1
  have hn : ¬ fn.name = "runtime.NumGoroutine" := by simpa using hc.2
  simp [execOp,ho,resolve,Deferred.ofValue,hg,invoke,callFunc,hf,hn,hb]
theorem Aao.call {P : Program} {o : Oper} {s : Nat→AV} {H : Aac} {N N' : Nat} {x : AV} (f : FuncId) (H' : Aac) (T W V : List Nat) (hN : N≤N') (hT : ∀ id ∈ T,id<N) (hV : ∀ id ∈ V,N≤id∧id<N') (hW : ∀ id ∈ W,id ∈ T∨id ∈ V)
 (hr : ∀ id,id ∉ W→H' id=H id)
 (h : ∀ (n : Nat) (c : Cx) (s1 : Nat→AV) (H1 : Aac) (a : Act) (w : World),Rel n c s1 H1 a w→(∀ t ∈ Aey o,s1 t=s t∧t<n)→(∀ id ∈ T,H1 id=H id)→(∀ id ∈ W,id ∈ V→c.ι id = .unused) →
  ∃ vs,(execOp a.eval o).run P w = .ok (.enter f vs) w∧Calls P f vs w fun e w'=>∃ v c',e = .returned v∧AcX c' (fun id=>if id ∈ W then H' id else H1 id) w'∧Rep c' x v∧Aeu c w c' w' ∧
   (∀ id,c.ι id = .unused→id ∉ W→c'.ι id = .unused)) : Aao P o s H N x H' N' T W where
 op:=by
  intro n c s1 H1 a w hrel hu hT' hW' K Q hk
  obtain ⟨vs,h1,h2⟩:=h n c s1 H1 a w hrel hu hT' (fun id h1 h2=>hW' id h1 (fun h3=>by have:=hT id h3; have:=(hV id h2).1; omega))
  unfold Oper.wp
  rw [h1,Oper.upon_enter]
  refine Calls.mono h2 (fun e w' hR=>?_)
  obtain ⟨v,c',rfl,hr',hx,g,hun⟩:=hR
  exact hk c' v w' hr' hx g hun
 rest:=hr
 n:=hN
 tn:=fun id h=>by have:=hT id h; omega
 wn:=fun id h=>by
  rcases hW id h with h1 | h1
  ·exact ⟨by have:=hT id h1; omega,fun h2=>absurd h1 h2⟩
  ·exact ⟨(hV id h1).2,fun _=>(hV id h1).1⟩
theorem Ann {c : Cx} {s : Nat→AV} {ρ : Operand→Value} : ∀ (l : List Operand),(∀ p ∈ l,Rep c (ev s p) (ρ p))→AaD c (l.map (ev s)) (l.map ρ)
 | [],_=>by simp [AaD]
 | p::l,h=>by
  simp only [List.map_cons,AaD]
  exact ⟨ρ p,l.map ρ,rfl,h p (by simp),Ann l (fun q hq=>h q (by simp [hq]))⟩
theorem AmV {P : Program} {o : Oper} {s : Nat→AV} (hc : AaY o=true) {g : Operand} {as : Array Operand} {ts : Array TypeId} (ho : o.op = .call { callee := .value g,args:=as,argTypes:=ts })
 {f : FuncId} {caps : List AV} (hg : ev s g = .fn f caps) (hcal : AaN P f=true) {n : Nat} {c : Cx} {s1 : Nat→AV} {H1 : Aac} {a : Act} {w : World} (hrel : Rel n c s1 H1 a w) (hu : ∀ t ∈ Aey o,s1 t=s t∧t<n) :
 ∃ vs : Array Value,(execOp a.eval o).run P w = .ok (.enter f vs) w∧AaD c (as.toList.map (ev s)++caps) vs.toList:=by
 have h1:=Aaj (x:=g) hrel hu hc (by simp [ho,Op.operands,Call.operands])
 rw [hg] at h1
 simp only [Rep] at h1
 obtain ⟨cv,hv,hr⟩:=h1
 refine ⟨as.map a.eval++cv,ArQ ho hv hcal,?_⟩
 rw [Array.toList_append,Array.toList_map]
 exact (Ann _ (fun p hp=>Aaj hrel hu hc (by simp [ho,Op.operands,Call.operands]; right; simpa using hp))).append hr
theorem AcX.take {c0 c : Cx} {H : Aac} {w0 w : World} (h : AcX c H w) (g : Aeu c0 w0 c w) {N : Nat} (hN : c.ι N = .unused) {b base sz : Nat} {o : AaZ} (hf : ArA c0 c w0 b) (h7 : AbQ c o b base sz) :
 AcX ⟨c.Z,upd c.ι N (.live b base sz),c.h⟩ (upd H N (some o)) w∧Aeu c0 w0 ⟨c.Z,upd c.ι N (.live b base sz),c.h⟩ w:=by
 obtain ⟨h4,h5,h6⟩:=hf
 have L : c.Le ⟨c.Z,upd c.ι N (.live b base sz),c.h⟩:=by
  refine ⟨fun _ h=>h,fun b hb o v hv=>hv,fun i hi=>?_,fun i b y z hi hl=>?_,fun i hi hl=>?_⟩
  ·simp only [upd]; split <;> simp_all
  ·simp only [upd] at hl
   split at hl
   ·subst i; exact absurd hN hi
   ·exact hl
  ·simp only [upd] at hl
   split at hl
   ·cases hl
   ·exact hl
 have lv : ∀ i b' y z,upd c.ι N (.live b base sz) i = .live b' y z→(i=N∧b'=b∧y=base∧z=sz)∨(i≠N∧c.ι i = .live b' y z):=by
  intro i b' y z hl
  simp only [upd] at hl
  split at hl
  ·simp only [Aei.live.injEq] at hl
   exact .inl ⟨by assumption,hl.1.symm,hl.2.1.symm,hl.2.2.symm⟩
  ·exact .inr ⟨by assumption,hl⟩
 refine ⟨⟨h.heap,?_,?_,?_,?_,?_,h.zlt,?_⟩,⟨g.le.trans L,g.zn,?_,g.keep,g.size,g.os,g.tape,g.output⟩⟩
 ·intro i b' y z hl
  rcases lv i b' y z hl with ⟨rfl,rfl,rfl,rfl⟩ | ⟨hne,hl'⟩
  ·exact ⟨o,by simp,h7.mono L rfl⟩
  ·obtain ⟨o',e1,e2⟩:=h.obj i b' y z hl'
   exact ⟨o',by simp [upd,hne,e1],e2.mono L rfl⟩
 ·intro i hi
  by_cases e : i=N
  ·subst e; simp at hi
  ·simp only [upd,e,if_false] at hi ⊢; exact h.emp i hi
 ·intro i hi hm
  by_cases e : i=N
  ·subst e; exact absurd (by simp) (hi b base sz)
  ·simp only [upd,e,if_false] at hi hm ⊢; exact h.non i hi hm
 ·intro i j b' y z y' z' e1 e2
  rcases lv i b' y z e1 with ⟨rfl,rfl,rfl,rfl⟩ | ⟨hne,hl'⟩ <;> rcases lv j b' y' z' e2 with ⟨rfl,q1,rfl,rfl⟩ | ⟨hne2,hl2⟩
  ·rfl
  ·exact absurd hl2 (h6 _ _ _)
  ·subst q1; exact absurd hl' (h6 _ _ _)
  ·exact h.inj i j b' y z y' z' hl' hl2
 ·intro i b' y z e1
  rcases lv i b' y z e1 with ⟨rfl,rfl,rfl,rfl⟩ | ⟨hne,hl'⟩
  ·exact h5
  ·exact h.sep i b' y z hl'
 ·obtain ⟨B,hB⟩:=h.fin
  refine ⟨max B (N+1),fun i hi=>?_⟩
  have e : i≠N:=by omega
  simp only [upd,e,if_false]
  exact hB i (by omega)
 ·intro i b' y z e1
  rcases lv i b' y z e1 with ⟨rfl,rfl,rfl,rfl⟩ | ⟨hne,hl'⟩
  ·exact h4
  ·exact g.nb i b' y z hl'
theorem AcX.adopt {c0 c : Cx} {H : Aac} {w0 w : World} (h : AcX c H w) (g : Aeu c0 w0 c w) {N : Nat} (h0 : c0.ι N = .unused) (hN : c.ι N = .unused) {es len : Nat} {o : AaZ} {v : Value} (hr : Ass c0 c w0 (.row es o len) v) :
 ∃ c',AcX c' (upd H N (some o)) w∧Aeu c0 w0 c' w∧Rep c' (.slc N 0 es len false) v∧∀ id,id≠N→c'.ι id=c.ι id:=by
 rcases hr with ⟨rfl,rfl,a0,rfl⟩ | ⟨b,base,off,cap,sz,rfl,hoff,h1,h2,h3,hf,h7⟩
 ·have L : c.Le ⟨c.Z,upd c.ι N .emp,c.h⟩:=by
   refine ⟨fun _ h=>h,fun b hb o v hv=>hv,fun i hi=>?_,fun i b y z hi hl=>?_,fun i hi hl=>?_⟩
   ·simp only [upd]; split <;> simp_all
   ·simp only [upd] at hl
    split at hl
    ·cases hl
    ·exact hl
   ·simp only [upd] at hl
    split at hl
    ·subst i; exact absurd hN hi
    ·exact hl
  have lv : ∀ i b y z,upd c.ι N .emp i = .live b y z→i≠N∧c.ι i = .live b y z:=by
   intro i b y z hl
   simp only [upd] at hl
   split at hl
   ·cases hl
   ·exact ⟨by assumption,hl⟩
  refine ⟨⟨c.Z,upd c.ι N .emp,c.h⟩,⟨h.heap,?_,?_,?_,?_,?_,h.zlt,?_⟩,⟨g.le.trans L,g.zn,fun i b y z hl=>g.nb i b y z (lv i b y z hl).2,g.keep,g.size,g.os,g.tape,g.output⟩,?_,fun id hid=>by simp [upd,hid]⟩
  ·intro i b y z hl
   obtain ⟨hne,hl'⟩:=lv i b y z hl
   obtain ⟨o',e1,e2⟩:=h.obj i b y z hl'
   exact ⟨o',by simp [upd,hne,e1],e2.mono L rfl⟩
  ·intro i hi
   by_cases e : i=N
   ·subst e; simp
   ·simp only [upd,e,if_false] at hi ⊢; exact h.emp i hi
  ·intro i hi hm
   by_cases e : i=N
   ·subst e; simp at hm
   ·simp only [upd,e,if_false] at hi hm ⊢; exact h.non i hi hm
  ·intro i j b y z y' z' e1 e2
   exact h.inj i j b y z y' z' (lv _ _ _ _ e1).2 (lv _ _ _ _ e2).2
  ·intro i b y z e1
   exact h.sep i b y z (lv _ _ _ _ e1).2
  ·obtain ⟨B,hB⟩:=h.fin
   refine ⟨max B (N+1),fun i hi=>?_⟩
   have e : i≠N:=by omega
   simp only [upd,e,if_false]
   exact hB i (by omega)
  ·simp only [Rep,AbR]
   exact ⟨by simp,rfl,fun _=>⟨trivial,_,rfl⟩,fun b x y hl=>by cases hl⟩
 ·obtain ⟨k1,k2⟩:=h.take g hN hf h7
  refine ⟨_,k1,k2,?_,fun id hid=>by simp [upd,hid]⟩
  simp only [Rep,AbR]
  refine ⟨by simp,rfl,fun e=>(by cases e),fun b' x y hl=>?_⟩
  simp only [Aei.live.injEq] at hl
  obtain ⟨rfl,rfl,rfl⟩:=hl
  exact ⟨cap,off,rfl,by simpa using hoff,h1,h2,by omega,fun e=>by simp at e⟩
theorem Alq {P : Program} {o : Oper} {s : Nat→AV} {H : Aac} {N : Nat} (hc : AaY o=true) (t t' : TypeId) (y z : Operand) (ho : o.op = .call { callee := .builtin .append,args := #[y,z],argTypes := #[t,t'] })
 (nl fl : Bool) (xs : List AV) (hy : ev s y = .lst nl fl xs) (hnf : nl=true∨(fl=true∧xs = [])) (e es by_ : Nat) (hE : Aap P t=some (e,es,by_)) (hX : AcP P t'=true) (ys : List AV) (T : List Nat) (hs : AnU H N es (ev s z) ys T)
 (hes : 0<es) (hm : ys.length≤maxLen) (hb : ys.length*by_≤140737488355328) :
 Aao P o s H N (.slc N 0 es ys.length false) (upd H N (some (.grow (AaI ys)))) (N+1) T [N]:=by
 obtain ⟨i,hu,hi,hsz,hby,z0,hz0,hzs⟩:=Aa9 hE
 have nilv : ∀ {c : Cx} {v : Value},Rep c (.lst nl fl xs) v→∃ a,v = .slice a 0 0:=by
  intro c v h
  obtain ⟨a,cap,hv,h1,h2,h3,h4,h5⟩:=Aek h
  have hcap:=h3 (hnf.elim .inr (fun h => .inl h.1))
  have hx : xs = []:=by
   rcases hnf with rfl | ⟨_,h⟩
   ·simp only [Rep,Bool.true_eq_false,false_and,or_false] at h
    exact h.1
   ·exact h
  subst hx
  exact ⟨a,by rw [hv,hcap]; rfl⟩
 by_cases hn : ys = []
 ·subst hn
  refine ⟨?_,fun id h=>AbV _ _ (by simpa using h),by omega,fun id h=>by have:=hs.below id h; omega,fun id h=>by simp at h; subst h; exact ⟨by omega,fun _=>Nat.le_refl _⟩⟩
  intro n c s1 H1 a w hrel hu' hT hW K Q hk
  have hun:=hW N (by simp) (fun h=>by have:=hs.below N h; omega)
  have r1:=Aaj hrel hu' hc (x:=y) (by simp [ho,Op.operands,Call.operands])
  have r2:=Aaj hrel hu' hc (x:=z) (by simp [ho,Op.operands,Call.operands])
  rw [hy] at r1
  obtain ⟨a0,hv⟩:=nilv r1
  have S:=AdD (P:=P) hrel.hr r2 (Ab8 hs.src hT) hs.sized hs.one hs.slc
  obtain ⟨arr,a1,a2,a3,a4⟩:=S.cells
  have harr : arr = #[]:=Array.size_eq_zero_iff.1 (by rw [a4]; simp)
  subst harr
  obtain ⟨c',k1,k2,k3,k4⟩:=hrel.hr.adopt (.refl c w) hun hun (es:=es) (len:=0) (o := .grow []) (v := .slice a0 0 0) (.inl ⟨rfl,rfl,_,rfl⟩)
  have hrun : (execOp a.eval o).run P w = .ok (.value (.slice a0 0 0)) w:=by
   have:=AcS (P:=P) (w:=w) (w':=w) (ty:=o.type) hu hX hi a0 0 0 0 (a.eval z) #[] (by simpa using S.len w rfl) (by rw [hsz]; simpa using a1 w rfl) (by omega) (by cases a0 <;> simp [storeCells])
   simp [execOp,ho,resolve,invoke,builtin,hv,this]
  unfold Oper.wp
  rw [hrun,Oper.upon_value]
  refine hk c' _ w (k1.eqH ?_) k3 k2 (fun id h1 h2=>by rw [k4 id (by simpa using h2)]; exact h1)
  funext id
  by_cases h : id=N
  ·subst h; simp [AaI]
  ·simp [h,upd]
 ·have hpos : 0<ys.length:=by cases ys with
   | nil=>exact absurd rfl hn
   | cons _ _=>simp
  refine Aao.new (.grow (AaI ys)) T hs.below fun n c s1 H1 a w hrel hu' hT hun=>?_
  have r1:=Aaj hrel hu' hc (x:=y) (by simp [ho,Op.operands,Call.operands])
  have r2:=Aaj hrel hu' hc (x:=z) (by simp [ho,Op.operands,Call.operands])
  rw [hy] at r1
  obtain ⟨a0,hv⟩:=nilv r1
  have S:=AdD (P:=P) hrel.hr r2 (Ab8 hs.src hT) hs.sized hs.one hs.slc
  obtain ⟨new,n1,n2,n3,n4⟩:=S.cells
  have hrun:=Ae2 (P:=P) (w:=w) (ty:=o.type) hu hX hi hz0 a0 0 0 ys.length (a.eval z) new #[] S.len (by rw [hsz]; exact n1) (fun w' _=>by cases a0 <;> simp [Builtin.firstCells,loadCells,loadCellsFrom]) (by omega) (by omega) (by rw [hby,Nat.zero_add]; exact hb)
  have hge:=grownCap_ge w (0+ys.length) 0 e
  have hle:=grownCap_le_maxLen w (0+ys.length) 0 e (by omega)
  generalize grownCap w (0+ys.length) 0 e=cap at hrun hge hle
  have harrsz : (#[]++new++Builtin.zeroCells z0.cells (cap-(0+ys.length)) : Array Value).size=cap*es:=by
   simp only [Array.size_append,Ace,n4,hzs,Array.size_empty,Nat.zero_add,← Nat.add_mul]
   congr 1; omega
  refine ⟨.slice (some ⟨w.heap.size,0,none⟩) (0+ys.length) cap,.cells (#[]++new++Builtin.zeroCells z0.cells (cap-(0+ys.length))) e,w.drew.alloc (.cells (#[]++new++Builtin.zeroCells z0.cells (cap-(0+ys.length))) e),0,cap*es,
   by simp only [execOp,ho,resolve,invoke,builtin,List.map_toArray,List.map_cons,List.map_nil,hv,Sem.run_bind,Sem.run_pure,Result.andThen_ok,hrun],rfl,rfl,rfl,rfl,fun L=>⟨?_,?_⟩⟩
  ·exact Adn (c:=c) (o := .grow []) (cs:=[]) rfl (fun _ h0=>by
    have h3:=n2.length
    rw [h0] at h3
    have h4 : new.size=0:=by simpa using h3
    rw [n4] at h4
    have:=Nat.mul_pos hpos hes
    omega) (by simp only [Array.getElem?_push_size]; rfl) harrsz (n2.mono L) ⟨(Builtin.zeroCells z0.cells (cap-(0+ys.length))).toList,by simp⟩
  ·simp only [Rep,AbR]
   refine ⟨by simp,rfl,fun h=>by simp at h,fun b' base' sz' h=>?_⟩
   simp only [Aei.live.injEq] at h
   obtain ⟨rfl,rfl,rfl⟩:=h
   exact ⟨cap,0,by simp,fun _=>rfl,by omega,hle,by omega,by simp⟩
theorem Als {P : Program} {o : Oper} {s : Nat→AV} {H : Aac} {N : Nat} (hc : AaY o=true) (t t' : TypeId) (y z : Operand) (ho : o.op = .call { callee := .builtin .append,args := #[y,z],argTypes := #[t,t'] })
 (nl fl : Bool) (xs : List AV) (hy : ev s y = .lst nl fl xs) (hfl : fl=true) (e es by_ : Nat) (hE : Aap P t=some (e,es,by_)) (hX : AcP P t'=true) (ys : List AV) (T : List Nat) (hs : AnU H N es (ev s z) ys T)
 (hes : 0<es) (hn : ys≠[]) (hsx : sized es xs) (h1x : ∀ x ∈ AaI xs,x.one=true) (hm : xs.length+ys.length≤maxLen) (hb : (xs.length+ys.length)*by_≤140737488355328) :
 Aao P o s H N (.slc N 0 es (xs.length+ys.length) false) (upd H N (some (.grow (AaI (xs++ys))))) (N+1) T [N]:=by
 obtain ⟨i,hu,hi,hsz,hby,z0,hz0,hzs⟩:=Aa9 hE
 have hpos : 0<ys.length:=by cases ys with
  | nil=>exact absurd rfl hn
  | cons _ _=>simp
 refine Aao.new (.grow (AaI (xs++ys))) T hs.below fun n c s1 H1 a w hrel hu' hT hun=>?_
 have r1:=Aaj hrel hu' hc (x:=y) (by simp [ho,Op.operands,Call.operands])
 have r2:=Aaj hrel hu' hc (x:=z) (by simp [ho,Op.operands,Call.operands])
 rw [hy] at r1
 have S:=AdD (P:=P) hrel.hr r2 (Ab8 hs.src hT) hs.sized hs.one hs.slc
 have B:=AdD (P:=P) (H:=H1) hrel.hr r1 rfl hsx h1x (by rintro ⟨_,_,_,_,_,h⟩; cases h)
 obtain ⟨ad,cap,hv,c1,c2,c3,c4,c5⟩:=Aek r1
 have hcap:=c3 (.inl hfl)
 subst hcap
 obtain ⟨new,n1,n2,n3,n4⟩:=S.cells
 obtain ⟨old,o1,o2,o3,o4⟩:=B.cells
 rw [hv] at o1
 have hrun:=Ae2 (P:=P) (w:=w) (ty:=o.type) hu hX hi hz0 ad xs.length xs.length ys.length (a.eval z) new old S.len (by rw [hsz]; exact n1) (by rw [hsz]; exact o1) (by omega) hm (by rw [hby]; exact hb)
 have hge:=grownCap_ge w (xs.length+ys.length) xs.length e
 have hle:=grownCap_le_maxLen w (xs.length+ys.length) xs.length e hm
 generalize grownCap w (xs.length+ys.length) xs.length e=cap at hrun hge hle
 have harrsz : (old++new++Builtin.zeroCells z0.cells (cap-(xs.length+ys.length)) : Array Value).size=cap*es:=by
  simp only [Array.size_append,Ace,n4,o4,hzs,← Nat.add_mul]
  congr 1; omega
 refine ⟨.slice (some ⟨w.heap.size,0,none⟩) (xs.length+ys.length) cap,.cells (old++new++Builtin.zeroCells z0.cells (cap-(xs.length+ys.length))) e,w.drew.alloc (.cells (old++new++Builtin.zeroCells z0.cells (cap-(xs.length+ys.length))) e),0,cap*es,
  by simp only [execOp,ho,resolve,invoke,builtin,List.map_toArray,List.map_cons,List.map_nil,hv,Sem.run_bind,Sem.run_pure,Result.andThen_ok,hrun],rfl,rfl,rfl,rfl,fun L=>⟨?_,?_⟩⟩
 ·have hR : AaD c (AaI (xs++ys)) (old.toList++new.toList):=by rw [Afr]; exact o2.append n2
  exact Adn (c:=c) (o := .grow []) (cs:=[]) rfl (fun _ h0=>by
   have h3:=hR.length
   rw [h0] at h3
   simp only [List.length_append,Array.length_toList,List.length_nil] at h3
   rw [n4] at h3
   have:=Nat.mul_pos hpos hes
   omega) (by simp only [Array.getElem?_push_size]; rfl) harrsz (hR.mono L) ⟨(Builtin.zeroCells z0.cells (cap-(xs.length+ys.length))).toList,by simp⟩
 ·simp only [Rep,AbR]
  refine ⟨by simp,rfl,fun h=>by simp at h,fun b' base' sz' h=>?_⟩
  simp only [Aei.live.injEq] at h
  obtain ⟨rfl,rfl,rfl⟩:=h
  exact ⟨cap,0,by simp,fun _=>rfl,by omega,hle,by omega,by simp⟩
mutual
def AV.flat : AV→Bool
 | .undef | .bool _ | .int _ _ | .str _ | .nilptr | .nilfn | .nilmap | .nilifc | .skip=>true
 | .lst nl _ xs=>nl&&xs.isEmpty
 | .agg xs=>Agi xs
 | .tup xs=>Agi xs
 | .fn _ xs=>Agi xs
 | .ifc _ x=>x.flat
 | .nn x=>x.flat
 | .rm x=>x.flat
 | _=>false
def Agi : List AV→Bool
 | []=>true
 | x::xs=>x.flat&&Agi xs
end
mutual
theorem Rep.flat {c c' : Cx} : ∀ (x : AV) (v : Value),x.flat=true→Rep c x v→Rep c' x v
 | .undef,_,_,_=>by simp [Rep]
 | .skip,_,_,h=>by simpa [Rep] using h
 | .bool _,_,_,h=>by simpa [Rep] using h
 | .int _ _,_,_,h=>by simpa [Rep] using h
 | .str _,_,_,h=>by simpa [Rep] using h
 | .lst nl fl xs,v,i,h=>by
  simp only [AV.flat,Bool.and_eq_true] at i
  simp only [Rep] at h ⊢
  rcases h with h | ⟨hn,_⟩
  ·exact .inl h
  ·rw [i.1] at hn; cases hn
 | .cptr cs,v,i,h=>by simp [AV.flat] at i
 | .ptr id off,v,i,h=>by simp [AV.flat] at i
 | .nilptr,_,_,h=>by simpa [Rep] using h
 | .slc id off es len full,v,i,h=>by simp [AV.flat] at i
 | .agg cs,v,i,h=>by
  simp only [Rep] at h ⊢
  simp only [AV.flat] at i
  obtain ⟨vs,hv,hr⟩:=h
  exact ⟨vs,hv,AaD.flat cs _ i hr⟩
 | .tup cs,v,i,h=>by
  simp only [Rep] at h ⊢
  simp only [AV.flat] at i
  obtain ⟨vs,hv,hr⟩:=h
  exact ⟨vs,hv,AaD.flat cs _ i hr⟩
 | .fn f cs,v,i,h=>by
  simp only [Rep] at h ⊢
  simp only [AV.flat] at i
  obtain ⟨vs,hv,hr⟩:=h
  exact ⟨vs,hv,AaD.flat cs _ i hr⟩
 | .nilfn,_,_,h=>by simpa [Rep] using h
 | .map id,v,i,h=>by simp [AV.flat] at i
 | .nilmap,_,_,h=>by simpa [Rep] using h
 | .ifc t x,v,i,h=>by
  simp only [Rep] at h ⊢
  simp only [AV.flat] at i
  obtain ⟨u,hv,hr⟩:=h
  exact ⟨u,hv,Rep.flat x u i hr⟩
 | .nilifc,_,_,h=>by simpa [Rep] using h
 | .nn x,v,i,h=>by
  simp only [Rep] at h ⊢
  simp only [AV.flat] at i
  exact ⟨Rep.flat x v i h.1,h.2⟩
 | .rm x,v,i,h=>by
  simp only [Rep] at h ⊢
  simp only [AV.flat] at i
  exact ⟨Rep.flat x v i h.1,h.2⟩
theorem AaD.flat {c c' : Cx} : ∀ (xs : List AV) (vs : List Value),Agi xs=true→AaD c xs vs→AaD c' xs vs
 | [],_,_,h=>by simpa [AaD] using h
 | x::xs,vs,i,h=>by
  simp only [AaD] at h ⊢
  simp only [Agi,Bool.and_eq_true] at i
  obtain ⟨v,rest,hv,h1,h2⟩:=h
  exact ⟨v,rest,hv,Rep.flat x v i.1 h1,AaD.flat xs rest i.2 h2⟩
end
def noIds (x : AV) : Prop:=idsIn (fun _=>False) x
def Afk (xs : List AV) : Prop:=AbP (fun _=>False) xs
inductive Aup (H : Aac) : AV→AV→List Nat→Prop
 | same {x : AV} (h : noIds x) : Aup H x x []
 | lst {id off es len : Nat} {full : Bool} {o : AaZ} {cs xs : List AV} (ho : H id=some o) (hc : o.cs? = some cs) (hs : sized es xs) (h1 : ∀ x ∈ AaI xs,x.one=true) (hn : Afk xs) (hl : xs.length=len) (he : AaI xs=(cs.drop off).take (len*es)) (nl : Bool)
  (hnl : nl=false) : Aup H (.slc id off es len full) (.lst nl full xs) [id]
 | ptr {id off : Nat} {o : AaZ} {cs : List AV} (ho : H id=some o) (hc : o.cs? = some cs) (hn : Afk cs) (hne : cs≠[]) : Aup H (.ptr id off) (.cptr (cs.drop off)) [id]
inductive Aje (H : Aac) : List AV→List AV→List Nat→Prop
 | nil : Aje H [] [] []
 | cons {x y : AV} {xs ys : List AV} {T U : List Nat} (h : Aup H x y T) (t : Aje H xs ys U) : Aje H (x::xs) (y::ys) (T++U)
theorem AcX.grown {c : Cx} {H : Aac} {w w' : World} (h : AcX c H w) (hb : Below w.heap.size w w') :
 AcX ⟨fun b=>c.Z b∨(w.heap.size≤b∧b<w'.heap.size),c.ι,w'.heap⟩ H w'∧Aeu c w ⟨fun b=>c.Z b∨(w.heap.size≤b∧b<w'.heap.size),c.ι,w'.heap⟩ w':=by
 have L : c.Le ⟨fun b=>c.Z b∨(w.heap.size≤b∧b<w'.heap.size),c.ι,w'.heap⟩:=by
  refine ⟨fun _ h => .inl h,fun b hz o v hv=>?_,fun i hi=>hi,fun i b y z hi hl=>hl,fun i hi hl=>hl⟩
  have:=h.zlt b hz
  simp only [Aa6,hb.block b this,← h.heap]; exact hv
 refine ⟨⟨rfl,?_,h.emp,h.non,h.inj,?_,?_,h.fin⟩,⟨L,?_,fun i b y z h1 => .inr ⟨i,y,z,h1⟩,fun b hlt _=>hb.block b hlt,hb.size,hb.os,hb.tape,hb.output⟩⟩
 ·intro i b y z hl
  obtain ⟨o',h1,h2⟩:=h.obj i b y z hl
  have hlt:=h.live_lt hl
  exact ⟨o',h1,h2.mono L (by simp only [h.heap]; exact hb.block b hlt)⟩
 ·intro i b y z h1 h2
  rcases h2 with h2 | h2
  ·exact h.sep i b y z h1 h2
  ·have:=h.live_lt h1; omega
 ·intro b hz
  rcases hz with hz | hz
  ·have:=h.zlt b hz; have:=hb.size; omega
  ·exact hz.2
 ·intro b hz
  rcases hz with hz | hz
  ·exact .inl hz
  ·exact .inr (.inl hz.1)
theorem Rep.noIds {c c' : Cx} {x : AV} {v : Value} (h : Rep c x v) (hn : noIds x) (hz : ∀ b,c.Z b→c'.Z b) (hc : ∀ b,c.Z b→∀ o v,Aa6 c.h b o=some v→Aa6 c'.h b o=some v) : Rep c' x v :=
 Rep.on (S:=fun _=>False) ⟨hz,hc,fun _ h=>h.elim,fun _ _ _ _ h=>h.elim,fun _ h=>h.elim⟩ x v hn h
theorem AaD.noIds {c c' : Cx} {xs : List AV} {vs : List Value} (h : AaD c xs vs) (hn : Afk xs) (hz : ∀ b,c.Z b→c'.Z b) (hc : ∀ b,c.Z b→∀ o v,Aa6 c.h b o=some v→Aa6 c'.h b o=some v) : AaD c' xs vs :=
 AaD.on (S:=fun _=>False) ⟨hz,hc,fun _ h=>h.elim,fun _ _ _ _ h=>h.elim,fun _ h=>h.elim⟩ xs vs hn h
theorem Aup.rep {H H1 : Aac} {x y : AV} {T : List Nat} (h : Aup H x y T) {c : Cx} {w : World} (hr : AcX c H1 w) (hT : ∀ id ∈ T,H1 id=H id) {Zb : Nat→Prop} (hz : ∀ b,c.Z b→Zb b) (hl : ∀ id ∈ T,∀ b p q,c.ι id = .live b p q→Zb b)
 {v : Value} (hv : Rep c x v) : Rep ⟨Zb,fun _ => .unused,w.heap⟩ y v:=by
 have hcell : ∀ b,c.Z b→∀ o v,Aa6 c.h b o=some v→Aa6 w.heap b o=some v:=fun b _ o v h=>by rw [← hr.heap]; exact h
 cases h with
 | same hn=>exact hv.noIds hn hz hcell
 | lst ho hc hs hone hn hlen he nl hnl =>
  rename_i id off es len full o cs xs
  have ho1:=(hT id (by simp)).trans ho
  rcases AdX hr ho1 with ⟨hemp,rfl⟩ | ⟨b,base,sz,hlive,hor⟩
  ·simp only [Rep] at hv
   obtain ⟨rfl,a0,rfl⟩:=hv.2.2.1 hemp
   have : xs = []:=List.length_eq_zero_iff.1 hlen
   subst this
   subst hnl
   exact Akf _ _ _
  ·have hng : o ≠ .grow []:=by
    intro e; subst e; obtain ⟨hne,_⟩:=hor; exact hne rfl
   obtain ⟨cap,p,rfl,hp,h1,h2,h3,h4⟩:=Abd hv hlive
   obtain ⟨cur,Ty,fr,vs,k1,k2,k3,k4,k5,k6⟩:=hor.cs hc
   have hbz : Zb b:=hl id (by simp) b base sz hlive
   have hn' : nl=false:=hnl
   have hcs : (cs.drop off).take (len*es)=AaI xs:=he.symm
   have hr2 : AaD c (AaI xs) ((vs.drop off).take (len*es)):=by rw [he]; exact (k5.drop off).take _
   have hr3 : AaD ⟨Zb,fun _ => .unused,w.heap⟩ (AaI xs) ((vs.drop off).take (len*es)):=by
    refine hr2.noIds ?_ hz hcell
    refine Aby.2 fun z hz'=>?_
    simp only [AaI,List.mem_flatMap] at hz'
    obtain ⟨u,hu,hz'⟩:=hz'
    have hu':=Aby.1 hn u hu
    cases u <;> simp only [AV.cells,List.mem_singleton] at hz' <;> first | (subst hz'; exact hu') | skip
    exact Aby.1 (by simpa [idsIn] using hu') z hz'
   obtain ⟨us,u1,u2,u3⟩:=Ajg hs hr3 (AaD.oneCell hr3 (List.all_eq_true.2 hone))
   have hul : us.length=len:=by rw [u1.length,hlen]
   subst hul
   simp only [Rep]
   refine .inr ⟨hn',_,b,p,cap,es,us,rfl,h1,h2,h4,fun _=>⟨rfl,hbz⟩,?_,u1⟩
   by_cases hcap : 0<cap
   ·rw [Ab5 u3,u2,hp hcap,← hr.heap]
    exact (k6.drop off).take _
   ·have : us = []:=List.length_eq_zero_iff.1 (by omega)
    subst this
    intro i hi; simp at hi
 | ptr ho hc hn hne =>
  rename_i id off o cs
  have ho1:=(hT id (by simp)).trans ho
  have hng : o ≠ .grow []:=by
   intro e; subst e; simp only [AaZ.cs?,Option.some.injEq] at hc; exact hne hc.symm
  obtain ⟨b,base,sz,hlive,hor⟩:=hr.live_of ho1 hng
  obtain ⟨cur,Ty,fr,vs,k1,k2,k3,k4,k5,k6⟩:=hor.cs hc
  have:=Ab3 hv hlive
  subst this
  simp only [Rep]
  refine ⟨b,base+off,vs.drop off,rfl,hl id (by simp) b base sz hlive,by rw [← hr.heap]; exact k6.drop off,?_⟩
  refine (k5.drop off).noIds ?_ hz hcell
  exact Aby.2 fun z hz'=>Aby.1 hn z (List.mem_of_mem_drop hz')
theorem Aje.rep {H H1 : Aac} {xs ys : List AV} {T : List Nat} (h : Aje H xs ys T) {c : Cx} {w : World} (hr : AcX c H1 w) (hT : ∀ id ∈ T,H1 id=H id) {Zb : Nat→Prop} (hz : ∀ b,c.Z b→Zb b) (hl : ∀ id ∈ T,∀ b p q,c.ι id = .live b p q→Zb b)
 {vs : List Value} (hv : AaD c xs vs) : AaD ⟨Zb,fun _ => .unused,w.heap⟩ ys vs:=by
 induction h generalizing vs with
 | nil=>simpa [AaD] using hv
 | cons h t ih =>
  simp only [AaD] at hv ⊢
  obtain ⟨v,rest,rfl,h1,h2⟩:=hv
  exact ⟨v,rest,rfl,h.rep hr (fun id hid=>hT id (by simp [hid])) hz (fun id hid=>hl id (by simp [hid])) h1,ih (fun id hid=>hT id (by simp [hid])) (fun id hid=>hl id (by simp [hid])) h2⟩
theorem Api {P : Program} {o : Oper} {s : Nat→AV} {H : Aac} {N : Nat} (hc : AaY o=true) (g : Operand) (as : Array Operand) (ts : Array TypeId) (ho : o.op = .call { callee := .value g,args:=as,argTypes:=ts })
 (f : FuncId) (caps : List AV) (hg : ev s g = .fn f caps) (hcal : AaN P f=true) (ys : List AV) (T : List Nat) (hcoe : Aje H (as.toList.map (ev s)++caps) ys T) (r : AV) (hP : AsJ P f ys r) (hT : ∀ id ∈ T,id<N)
 (hflat : T = []∨r.flat=true) : Aao P o s H N r H N T [] :=
 Aao.call f H T [] [] (Nat.le_refl _) hT (fun _ h=>by simp at h) (fun _ h=>by simp at h) (fun _ _=>rfl) fun n c s1 H1 a w hrel hu hT' _=>by
  obtain ⟨vs,h1,h2⟩:=AmV hc ho hg hcal hrel hu
  have hr:=hrel.hr
  have h3:=hcoe.rep (Zb:=fun b=>c.Z b∨∃ id ∈ T,∃ p q,c.ι id = .live b p q) hr hT' (fun b h => .inl h) (fun id hid b p q h => .inr ⟨id,hid,p,q,h⟩) h2
  refine ⟨vs,h1,Calls.mono (hP _ w vs ?_ h3) (fun e w' h=>?_)⟩
  ·intro b hb
   rcases hb with hb | ⟨id,_,p,q,hb⟩
   ·exact hr.zlt b hb
   ·exact hr.live_lt hb
  ·obtain ⟨v,rfl,hb,hx⟩:=h
   obtain ⟨k1,k2⟩:=hr.grown hb
   refine ⟨v,_,rfl,k1.eqH (by simp),?_,k2,fun id h _=>h⟩
   rcases hflat with rfl | hf
   ·refine hx.noIds (idsIn.mono (fun i h=>h rfl) _ (Rep.ids _ _ hx)) ?_ (fun b _ o v h=>h)
    intro b hb
    rcases hb with (hb | ⟨id,hid,_⟩) | hb
    ·exact .inl hb
    ·simp at hid
    ·exact .inr hb
   ·exact hx.flat r v hf
end Go.Abs
