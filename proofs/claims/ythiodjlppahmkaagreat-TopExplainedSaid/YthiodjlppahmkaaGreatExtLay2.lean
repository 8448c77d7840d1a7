import Derived.Test.YthiodjlppahmkaaGreatExtLay1
set_option linter.unusedVariables false
set_option linter.unusedSimpArgs false
namespace Go.Abs
structure Rel (n : Nat) (c : Cx) (s : Nat→AV) (H : Aac) (a : Act) (w : World) : Prop where
 hr : AcX c H w
 size : a.tmps.size=n
 slot : ∀ t,t<n→Rep c (s t) (a.tmps.getD t Go.undef)
def Aey (o : Oper) : List Nat:=o.op.operands.toList.filterMap fun | .tmp t=>some t | _=>none
def OpT (P : Program) (o : Oper) (s : Nat→AV) (H : Aac) (x : AV) (H' : Aac) (T W : List Nat) : Prop :=
 ∀ (n : Nat) (c : Cx) (s1 : Nat→AV) (H1 : Aac) (a : Act) (w : World),Rel n c s1 H1 a w→(∀ t ∈ Aey o,s1 t=s t∧t<n)→(∀ id ∈ T,H1 id=H id) →
  (∀ id ∈ W,id ∉ T→c.ι id = .unused) →
  ∀ (K : Act→World→Prop) (Q : Exit→Act→World→Prop),
   (∀ c' v w',AcX c' (fun id=>if id ∈ W then H' id else H1 id) w'→Rep c' x v→Aeu c w c' w'→(∀ id,c.ι id = .unused→id ∉ W→c'.ι id = .unused)→K (a.put o.dst v) w')→o.wp P a w K Q
structure Step where
 ex : Bool
 x : AV
 H : Aac
 T : List Nat
 W : List Nat
 N : Nat
def Ag0 (s : Nat→AV) (d : Option Nat) (x : AV) : Nat→AV :=
 match d with
 | some d=>upd s d x
 | none=>s
def AcI (ops : Array Oper) (o : Oper) (s : Nat→AV) (ex : Bool) : Prop :=
 match o.guard with
 | none=>ex=true
 | some (j,want)=>∃ d,(ops[j]?).bind (·.dst)=some d∧((∃ b,s d = .bool b∧ex=(b==want))∨(s d = .skip∧ex=false))
def Tr (P : Program) (ops : Array Oper) : List Oper→(Nat→AV)→Aac→Nat→List Step→(Nat→AV)→Aac→Nat→Prop
 | [],s,H,N,st,s',H',N'=>st = []∧s'=s∧H'=H∧N'=N
 | o::os,s,H,N,st,s',H',N'=>∃ t rest,st=t::rest∧AcI ops o s t.ex ∧
  (t.ex=true→OpT P o s H t.x t.H t.T t.W∧(∀ id,id ∉ t.W→t.H id=H id))∧(t.ex=false→t.x = .skip∧t.H=H∧t.T = []∧t.W = []) ∧
  N≤t.N∧(∀ id ∈ t.T,id<t.N)∧(∀ id ∈ t.W,id<t.N∧(id ∉ t.T→N≤id)) ∧
  Tr P ops os (Ag0 s o.dst t.x) t.H t.N rest s' H' N'
theorem Rel.put {n : Nat} {c : Cx} {s : Nat→AV} {H : Aac} {a : Act} {w : World} {c' : Cx} {H' : Aac} {w' : World} (h : Rel n c s H a w) (hr : AcX c' H' w') (L : c.Le c') {d : Option Nat} (hd : ∀ t,d=some t→t<n)
 {x : AV} {v : Value} (hx : Rep c' x v) : Rel n c' (Ag0 s d x) H' (a.put d v) w':=by
 refine ⟨hr,?_,fun t ht=>?_⟩
 ·cases d with
  | none=>exact h.size
  | some d=>simpa [Act.put] using h.size
 ·cases d with
  | none=>exact (h.slot t ht).mono L _ _
  | some d =>
   have hdn:=hd d rfl
   simp only [Ag0,Act.put]
   by_cases e : t=d
   ·subst e
    have : t<a.tmps.size:=by rw [h.size]; exact ht
    simp [Array.getD,this]
    exact hx
   ·rw [AbV _ _ e]
    have : (a.tmps.setIfInBounds d v).getD t Go.undef=a.tmps.getD t Go.undef:=by
     have hne : d≠t:=fun x=>e x.symm
     simp only [Array.getD_eq_getD_getElem?,Array.getElem?_setIfInBounds_ne hne]
    rw [this]
    exact (h.slot t ht).mono L _ _
theorem AoR {n : Nat} {c : Cx} {s : Nat→AV} {H : Aac} {a : Act} {w : World} (h : Rel n c s H a w) {ops : Array Oper} {j d : Nat} (hj : (ops[j]?).bind (·.dst)=some d) (hd : d<n) :
 (∀ b,s d = .bool b→yielded ops a.tmps j=some b)∧(s d = .skip→yielded ops a.tmps j=none):=by
 have hlt : d<a.tmps.size:=by rw [h.size]; exact hd
 have hg : a.tmps[d]? = some (a.tmps.getD d Go.undef):=by simp [Array.getD,hlt]
 have hs:=h.slot d hd
 constructor
 ·intro b e
  rw [e] at hs
  simp only [Rep] at hs
  simp only [yielded,hj,Option.bind_some,hg,hs]
 ·intro e
  rw [e] at hs
  simp only [Rep] at hs
  simp only [yielded,hj,Option.bind_some,hg,hs]; rfl
theorem ApE {n : Nat} {c : Cx} {s : Nat→AV} {H : Aac} {a : Act} {w : World} (h : Rel n c s H a w) {ops : Array Oper} {o : Oper} {ex : Bool} (hs : AcI ops o s ex)
 (hn : ∀ j want,o.guard=some (j,want)→∀ d,(ops[j]?).bind (·.dst)=some d→d<n) : Region.wanted o (yielded ops a.tmps)=ex:=by
 unfold AcI at hs
 unfold Region.wanted
 cases hg : o.guard with
 | none=>rw [hg] at hs; simp [hs]
 | some p =>
  obtain ⟨j,want⟩:=p
  rw [hg] at hs
  simp only at hs ⊢
  obtain ⟨d,hj,hs⟩:=hs
  have:=AoR h hj (hn j want hg d hj)
  rcases hs with ⟨b,hb,rfl⟩ | ⟨hb,rfl⟩
  ·rw [this.1 b hb]
   cases b <;> cases want <;> rfl
  ·rw [this.2 hb]; rfl
def AkY (n : Nat) (ops : List Oper) : Bool :=
 ops.all fun o=>(Aey o).all (· < n)&&(match o.dst with | some d=>decide (d<n) | none=>true)&&(match o.guard with | some (j,_)=>(match (ops[j]?).bind (·.dst) with | some d=>decide (d<n) | none=>true) | none=>true)
structure AnV (n : Nat) (ops : Array Oper) (o : Oper) : Prop where
 uses : ∀ t ∈ Aey o,t<n
 dst : ∀ d,o.dst=some d→d<n
 guard : ∀ j want,o.guard=some (j,want)→∀ d,(ops[j]?).bind (·.dst)=some d→d<n
theorem AhU {n : Nat} {ops : List Oper} (h : AkY n ops=true) : ∀ o ∈ ops,AnV n ops.toArray o:=by
 intro o ho
 have:=List.all_eq_true.1 h o ho
 simp only [Bool.and_eq_true] at this
 obtain ⟨⟨h1,h2⟩,h3⟩:=this
 refine ⟨fun t ht=>by simpa using List.all_eq_true.1 h1 t ht,fun d hd=>by rw [hd] at h2; simpa using h2,fun j want hg d hj=>?_⟩
 rw [hg] at h3
 simp only [List.getElem?_toArray] at hj
 simp only [hj] at h3
 simpa using h3
theorem ApK {P : Program} {ops : Array Oper} {o : Oper} {s s1 : Nat→AV} {H H1 : Aac} {t : Step} {n : Nat} {c : Cx} {a : Act} {w : World}
 (hok : AnV n ops o) (hrel : Rel n c s1 H1 a w) (hg : AcI ops o s1 t.ex)
 (hop : t.ex=true→OpT P o s H t.x t.H t.T t.W) (hsk : t.ex=false→t.x = .skip∧t.W = [])
 (hs : t.ex=true→∀ u ∈ Aey o,s1 u=s u) (hT : ∀ id ∈ t.T,H1 id=H id) (hW : ∀ id ∈ t.W,id ∉ t.T→c.ι id = .unused)
 (K : Act→World→Prop) (Q : Exit→Act→World→Prop)
 (hk : ∀ c' a' w',Rel n c' (Ag0 s1 o.dst t.x) (fun id=>if id ∈ t.W then t.H id else H1 id) a' w'→a'.defers=a.defers→Aeu c w c' w'→(∀ id,c.ι id = .unused→id ∉ t.W→c'.ι id = .unused)→K a' w') :
 if Region.wanted o (yielded ops a.tmps) then o.wp P a w K Q∨(o.asks P a w∧LetsOut Q) else K (a.put o.dst Go.undef) w:=by
 have hwant:=ApE hrel hg hok.guard
 have hdf : ∀ v,(a.put o.dst v).defers=a.defers:=fun v=>by cases o.dst <;> rfl
 rw [hwant]
 cases hex : t.ex with
 | true =>
  simp only [if_true]
  refine .inl (hop hex n c s1 H1 a w hrel (fun u hu=>⟨hs hex u hu,hok.uses u hu⟩) hT hW K Q ?_)
  intro c' v w' hr hx g hun
  exact hk c' _ w' (hrel.put hr g.le hok.dst hx) (hdf v) g hun
 | false =>
  simp only [Bool.false_eq_true,if_false]
  obtain ⟨hx,hw⟩:=hsk hex
  refine hk c _ w ?_ (hdf _) (.refl c w) (fun id h _=>h)
  rw [hw,hx]
  simp only [List.not_mem_nil,if_false]
  exact hrel.put hrel.hr (.refl c) hok.dst (by simp [Rep])
theorem AiM {P : Program} {ops : Array Oper} {n : Nat} {c0 : Cx} {w0 : World} {df : List Deferred} {Q : Exit→Act→World→Prop} :
 ∀ (l : List Oper) (s : Nat→AV) (H : Aac) (N : Nat) (st : List Step) (s' : Nat→AV) (H' : Aac) (N' : Nat),(∀ o ∈ l,AnV n ops o)→Tr P ops l s H N st s' H' N' →
 (∀ c a w,Rel n c s' H' a w→a.defers=df→Aeu c0 w0 c w→AcF c N'→Q .normal a w) →
 ∀ c a w,Rel n c s H a w→a.defers=df→Aeu c0 w0 c w→AcF c N→wpList P ops Q l a w
 | [],s,H,N,st,s',H',N',_,htr,hk,c,a,w,hrel,hd,g,hN=>by
  obtain ⟨_,rfl,rfl,rfl⟩:=htr
  exact hk c a w hrel hd g hN
 | o::os,s,H,N,st,s',H',N',hok,htr,hk,c,a,w,hrel,hd,g,hN=>by
  obtain ⟨t,rest,rfl,hg,hop,hsk,hNN,hT,hW,htr'⟩:=htr
  unfold wpList
  refine ApK (t:=t) (s:=s) (H:=H) (hok o (by simp)) hrel hg (fun h=>(hop h).1) (fun h=>⟨(hsk h).1,(hsk h).2.2.2⟩) (fun _ u _=>rfl) (fun id _=>rfl) (fun id h1 h2=>hN id ((hW id h1).2 h2)) _ _ ?_
  intro c' a' w' hr' hd' g' hun
  refine AiM os (Ag0 s o.dst t.x) t.H t.N rest s' H' N' (fun o ho=>hok o (by simp [ho])) htr' hk c' a' w' ?_ (hd'.trans hd) (g.trans g') ?_
  ·have e : (fun id=>if id ∈ t.W then t.H id else H id)=t.H:=by
    funext id
    by_cases hid : id ∈ t.W
    ·simp [hid]
    ·simp only [hid,if_false]
     cases hex : t.ex with
     | true=>exact ((hop hex).2 id hid).symm
     | false=>rw [(hsk hex).2.1]
   rw [e] at hr'; exact hr'
  ·intro id hid
   exact hun id (hN id (by omega)) (fun hw=>by have:=(hW id hw).1; omega)
def AgK {α : Type} (init : α) (wr : Nat→Bool) (val : Nat→α) (E : Nat→Bool) : Nat→α
 | 0=>init
 | k+1=>if E k&&wr k then val k else AgK init wr val E k
theorem Adr {α : Type} (init : α) (wr : Nat→Bool) (val : Nat→α) (E : Nat→Bool) (i : Nat) : ∀ n,i≤n→(∀ k,i≤k→k<n→wr k=true→E k=false)→AgK init wr val E n=AgK init wr val E i
 | 0,h,_=>by have : i=0:=by omega
             rw [this]
 | n+1,h,hk=>by
  by_cases e : i=n+1
  ·rw [e]
  ·have ih:=Adr init wr val E i n (by omega) (fun k h1 h2=>hk k h1 (by omega))
   simp only [AgK]
   rw [if_neg]
   ·exact ih
   ·intro hc
    simp only [Bool.and_eq_true] at hc
    have:=hk n (by omega) (by omega) hc.2
    rw [hc.1] at this; cases this
theorem AhD {α : Type} (init : α) (wr : Nat→Bool) (val : Nat→α) (E : Nat→Bool) : ∀ i,(∀ k,k<i→wr k=true→E k=true)→AgK init wr val E i=AgK init wr val (fun _=>true) i
 | 0,_=>rfl
 | i+1,h=>by
  have ih:=AhD init wr val E i (fun k hk=>h k (by omega))
  simp only [AgK,Bool.true_and]
  cases hw : wr i with
  | true=>simp [h i (by omega) hw]
  | false=>simp [ih]
theorem Ahj {α : Type} (init : α) (wr : Nat→Bool) (val : Nat→α) (E E' : Nat→Bool) : ∀ i,(∀ k,k<i→wr k=true→E k=E' k)→AgK init wr val E i=AgK init wr val E' i
 | 0,_=>rfl
 | i+1,h=>by
  have ih:=Ahj init wr val E E' i (fun k hk=>h k (by omega))
  simp only [AgK]
  cases hw : wr i with
  | true=>rw [h i (by omega) hw,ih]
  | false=>simp [ih]
theorem AoH {α : Type} (init : α) (wr : Nat→Bool) (val : Nat→α) (E : Nat→Bool) (i n : Nat) (hi : i<n) (hw : wr i=true) (hl : ∀ k,i<k→k<n→wr k=true→E k=false) :
 AgK init wr val (fun k=>if k=i then true else E k) n=val i:=by
 rw [Adr init wr val _ (i+1) n (by omega) (fun k h1 h2 h3=>by
  have : k≠i:=by omega
  simp only [this,if_false]
  exact hl k (by omega) h2 h3)]
 simp [AgK,hw]
def ahead (ops : List Oper) : List Nat :=
 ops.foldl (init:=[]) fun acc o=>acc++[o.after.foldl (fun s e=>if Region.binds .any e then s ||| 2 ^ e.on ||| acc.getD e.on 0 else s) 0]
def AeN (ops : List Oper) : Bool:=(List.range ops.length).all fun i=>match ops[i]? with | some o=>o.after.all fun e => !Region.binds .any e||decide (e.on<i) | none=>true
def Ae4 (ops : List Oper) (o : Oper) (t : Nat) : Bool :=
 (Aey o).contains t||(match o.guard with | some (j,_)=>(ops[j]?).bind (·.dst)==some t | none=>false)
def Agt (ops : List Oper) (x y : Oper) : Bool :=
 (match x.dst with | some d=>Ae4 ops y d||y.dst==some d | none=>false)||(match y.dst with | some d=>Ae4 ops x d | none=>false)
def AfQ (x y : List Nat×List Nat) : Bool :=
 x.2.any (fun i=>y.1.contains i||y.2.contains i)||y.2.any (fun i=>x.1.contains i)
def AiY (ops : List Oper) : Bool :=
 let A:=ahead ops
 (List.range ops.length).all fun j=>(List.range j).all fun i =>
  match ops[i]?,ops[j]? with
  | some x,some y => !Agt ops x y||(A.getD j 0).testBit i
  | _,_=>true
def Abi (ops : List Oper) (lg : List (List Nat×List Nat)) : Bool :=
 lg.all (fun p=>p.2.isEmpty) ||
 (let A:=ahead ops
  (List.range ops.length).all fun j=>(List.range j).all fun i =>
   !AfQ (lg.getD i ([],[])) (lg.getD j ([],[]))||(A.getD j 0).testBit i)
theorem Anh {α : Type} {C : List α→Prop} (h0 : C []) (hs : ∀ l a,C l→C (l++[a])) (l : List α) : C l:=by
 have h : ∀ m : List α,C m.reverse:=by
  intro m
  induction m with
  | nil=>exact h0
  | cons a m ih=>rw [List.reverse_cons]; exact hs _ a ih
 have:=h l.reverse
 rwa [List.reverse_reverse] at this
theorem Aj9 (ops : List Oper) (o : Oper) : ahead (ops++[o])=ahead ops++[o.after.foldl (fun s e=>if Region.binds .any e then s ||| 2 ^ e.on ||| (ahead ops).getD e.on 0 else s) 0]:=by
 simp [ahead,List.foldl_append]
theorem Amc : ∀ (ops : List Oper),(ahead ops).length=ops.length:=by
 intro ops
 induction ops using Anh with
 | h0=>rfl
 | hs l a ih=>rw [Aj9]; simp [ih]
theorem An9 (acc : Nat→Nat) (i : Nat) : ∀ (l : List Edge) (s : Nat),(l.foldl (fun s e=>if Region.binds .any e then s ||| 2 ^ e.on ||| acc e.on else s) s).testBit i=true →
 s.testBit i=true∨∃ e ∈ l,Region.binds .any e=true∧(i=e.on∨(acc e.on).testBit i=true)
 | [],s,h => .inl h
 | e::l,s,h=>by
  simp only [List.foldl_cons] at h
  rcases An9 acc i l _ h with h | ⟨e',he,h1,h2⟩
  ·split at h
   ·rename_i hb
    simp only [Nat.testBit_or,Bool.or_eq_true] at h
    rcases h with (h | h) | h
    ·exact .inl h
    ·rw [Nat.testBit_two_pow] at h
     exact .inr ⟨e,by simp,hb,.inl (Eq.symm (by simpa using h))⟩
    ·exact .inr ⟨e,by simp,hb,.inr h⟩
   ·exact .inl h
  ·exact .inr ⟨e',by simp [he],h1,h2⟩
theorem Amd (ops : List Oper) (j : Nat) (o : Oper) (ho : ops[j]? = some o) (hb : AeN ops=true) (i : Nat) (h : ((ahead ops).getD j 0).testBit i=true) :
 ∃ e ∈ o.after.toList,Region.binds .any e=true∧e.on<j∧(i=e.on∨((ahead ops).getD e.on 0).testBit i=true):=by
 induction ops using Anh with
 | h0=>simp at ho
 | hs l a ih =>
  have hl:=Amc l
  have hbl : AeN l=true:=by
   simp only [AeN,List.all_eq_true,List.mem_range] at hb ⊢
   intro k hk
   have:=hb k (by simp; omega)
   rw [List.getElem?_append_left hk] at this
   exact this
  rw [Aj9] at h ⊢
  have hget : ∀ k,k<l.length→∀ (z : Nat),(ahead l++[z]).getD k 0=(ahead l).getD k 0:=by
   intro k hk z
   simp only [List.getD_eq_getElem?_getD]
   rw [List.getElem?_append_left (by omega)]
  by_cases hj : j<l.length
  ·rw [List.getElem?_append_left hj] at ho
   rw [hget j hj] at h
   obtain ⟨e,he,h1,h2,h3⟩:=ih ho hbl h
   exact ⟨e,he,h1,h2,by rw [hget e.on (by omega)]; exact h3⟩
  ·have hlt : j<(l++[a]).length:=(List.getElem?_eq_some_iff.1 ho).1
   have hj' : j=l.length:=by simp at hlt; omega
   subst hj'
   simp only [List.getElem?_append_right (Nat.le_refl _),Nat.sub_self,List.getElem?_cons_zero,Option.some.injEq] at ho
   subst ho
   have hz : ∀ z,(ahead l++[z]).getD l.length 0=z:=by
    intro z
    simp only [List.getD_eq_getElem?_getD]
    rw [List.getElem?_append_right (by omega)]
    simp [hl]
   rw [hz] at h
   rw [← Array.foldl_toList] at h
   rcases An9 (fun k=>(ahead l).getD k 0) i _ _ h with h | ⟨e,he,h1,h2⟩
   ·simp at h
   ·have hon : e.on<l.length:=by
     have:=(List.all_eq_true.1 hb) l.length (by simp)
     simp only [List.getElem?_append_right (Nat.le_refl _),Nat.sub_self,List.getElem?_cons_zero] at this
     have:=(Array.all_eq_true_iff_forall_mem.1 this) e (by simpa using he)
     simpa [h1] using this
    exact ⟨e,he,h1,hon,by rw [hget e.on hon]; exact h2⟩
theorem Ame (ops : List Oper) (hb : AeN ops=true) (E : Nat→Bool) (hE : ∀ j o,ops[j]? = some o→E j=true→∀ e ∈ o.after.toList,Region.binds .any e=true→E e.on=true) :
 ∀ j,j<ops.length→E j=true→∀ i,((ahead ops).getD j 0).testBit i=true→E i=true:=by
 intro j
 induction j using Nat.strongRecOn with
 | _ j ih =>
  intro hj hEj i hi
  obtain ⟨o,ho⟩ : ∃ o,ops[j]? = some o:=⟨ops[j],by simp [hj]⟩
  obtain ⟨e,he,h1,h2,h3⟩:=Amd ops j o ho hb i hi
  have hEe:=hE j o ho hEj e he h1
  rcases h3 with rfl | h3
  ·exact hEe
  ·exact ih e.on h2 (by omega) hEe i h3
def stS (l : List Oper) (st : List Step) (s : Nat→AV) : Nat→(Nat→AV)
 | 0=>s
 | i+1=>match l[i]?,st[i]? with
  | some o,some t=>Ag0 (stS l st s i) o.dst t.x
  | _,_=>stS l st s i
def stH (st : List Step) (H : Aac) : Nat→Aac
 | 0=>H
 | i+1=>match st[i]? with
  | some t=>t.H
  | none=>stH st H i
def stN (st : List Step) (N : Nat) : Nat→Nat
 | 0=>N
 | i+1=>match st[i]? with
  | some t=>t.N
  | none=>stN st N i
theorem AkT (o : Oper) (l : List Oper) (t : Step) (st : List Step) (s : Nat→AV) : ∀ i,stS (o::l) (t::st) s (i+1)=stS l st (Ag0 s o.dst t.x) i
 | 0=>by simp [stS]
 | i+1=>by
  have ih:=AkT o l t st s i
  rw [stS,ih,stS]
  simp
theorem AkV (t : Step) (st : List Step) (H : Aac) : ∀ i,stH (t::st) H (i+1)=stH st t.H i
 | 0=>by simp [stH]
 | i+1=>by
  have ih:=AkV t st H i
  rw [stH,ih,stH]
  simp
theorem AkU (t : Step) (st : List Step) (N : Nat) : ∀ i,stN (t::st) N (i+1)=stN st t.N i
 | 0=>by simp [stN]
 | i+1=>by
  have ih:=AkU t st N i
  rw [stN,ih,stN]
  simp
structure AyW (P : Program) (ops : Array Oper) (o : Oper) (t : Step) (S : Nat→AV) (H : Aac) (N : Nat) : Prop where
 guard : AcI ops o S t.ex
 op : t.ex=true→OpT P o S H t.x t.H t.T t.W
 rest : ∀ id,id ∉ t.W→t.H id=H id
 skip : t.ex=false→t.x = .skip∧t.W = []
 n : N≤t.N
 tn : ∀ id ∈ t.T,id<t.N
 wn : ∀ id ∈ t.W,id<t.N∧(id ∉ t.T→N≤id)
theorem ArK {P : Program} {ops : Array Oper} : ∀ (l : List Oper) (s : Nat→AV) (H : Aac) (N : Nat) (st : List Step) (s' : Nat→AV) (H' : Aac) (N' : Nat),Tr P ops l s H N st s' H' N' →
 st.length=l.length∧stS l st s l.length=s'∧stH st H l.length=H'∧stN st N l.length=N' ∧
 ∀ i o t,l[i]? = some o→st[i]? = some t→AyW P ops o t (stS l st s i) (stH st H i) (stN st N i)
 | [],s,H,N,st,s',H',N',h=>by
  obtain ⟨rfl,rfl,rfl,rfl⟩:=h
  exact ⟨rfl,rfl,rfl,rfl,fun i o t h=>by simp at h⟩
 | o::l,s,H,N,st,s',H',N',h=>by
  obtain ⟨t,rest,rfl,hg,hop,hsk,hNN,hT,hW,htr⟩:=h
  obtain ⟨h1,h2,h3,h4,h5⟩:=ArK l _ _ _ _ _ _ _ htr
  refine ⟨by simp [h1],?_,?_,?_,?_⟩
  ·rw [List.length_cons,AkT]; exact h2
  ·rw [List.length_cons,AkV]; exact h3
  ·rw [List.length_cons,AkU]; exact h4
  ·intro i o' t' ho ht
   cases i with
   | zero =>
    simp only [List.getElem?_cons_zero,Option.some.injEq] at ho ht
    subst ho; subst ht
    refine ⟨hg,fun h=>(hop h).1,fun id hid=>?_,fun h=>⟨(hsk h).1,(hsk h).2.2.2⟩,hNN,hT,hW⟩
    cases hex : t.ex with
    | true=>exact (hop hex).2 id hid
    | false=>rw [(hsk hex).2.1]; rfl
   | succ i =>
    rw [AkT,AkV,AkU]
    exact h5 i o' t' (by simpa using ho) (by simpa using ht)
theorem Afz {P : Program} {ops : Array Oper} {l : List Oper} {s : Nat→AV} {H : Aac} {N : Nat} {st : List Step} (hl : st.length=l.length)
 (h : ∀ i o t,l[i]? = some o→st[i]? = some t→AyW P ops o t (stS l st s i) (stH st H i) (stN st N i)) : ∀ i j,i≤j→j≤l.length→stN st N i≤stN st N j:=by
 intro i j hij hj
 induction j with
 | zero=>have : i=0:=by omega
         rw [this]; exact Nat.le_refl _
 | succ j ih =>
  by_cases e : i=j+1
  ·rw [e]; exact Nat.le_refl _
  ·have:=ih (by omega) (by omega)
   have hlo : l[j]? = some l[j]:=by simp [show j<l.length from by omega]
   have hst : st[j]? = some (st[j]'(by omega)):=by simp [show j<st.length from by omega]
   have hn:=(h j _ _ hlo hst).n
   have e2 : stN st N (j+1)=(st[j]'(by omega)).N:=by simp only [stN,hst]
   omega
def cnt (E : Nat→Bool) : Nat→Nat
 | 0=>0
 | n+1=>cnt E n+(if E n then 1 else 0)
theorem AjB (E : Nat→Bool) : ∀ n,cnt E n≤n
 | 0=>Nat.le_refl _
 | n+1=>by have:=AjB E n; simp only [cnt]; split <;> omega
theorem AlB (E : Nat→Bool) : ∀ n,cnt E n=n→∀ i,i<n→E i=true
 | 0,_,i,h=>by omega
 | n+1,h,i,hi=>by
  have:=AjB E n
  simp only [cnt] at h
  split at h
  ·by_cases e : i=n
   ·rw [e]; assumption
   ·exact AlB E n (by omega) i (by omega)
  ·omega
theorem AmS (E : Nat→Bool) : ∀ n,cnt E n<n→∃ i,i<n∧E i=false∧∀ k,k<i→E k=true
 | 0,h=>by omega
 | n+1,h=>by
  by_cases e : cnt E n=n
  ·have:=AlB E n e
   simp only [cnt] at h
   split at h
   ·omega
   ·exact ⟨n,by omega,by simpa using ‹¬ E n=true›,this⟩
  ·obtain ⟨i,h1,h2,h3⟩:=AmS E n (by have:=AjB E n; omega)
   exact ⟨i,by omega,h2,h3⟩
theorem Aqc (E : Nat→Bool) (i : Nat) (hi : E i=false) : ∀ n,cnt (fun k=>if k=i then true else E k) n=cnt E n+(if i<n then 1 else 0)
 | 0=>by simp [cnt]
 | n+1=>by
  have ih:=Aqc E i hi n
  simp only [cnt,ih]
  by_cases e : n=i
  ·subst e; simp [hi]
  ·have e2 : (i<n+1)=(i<n):=by rw [eq_iff_iff]; omega
   simp only [e,if_false,e2]
   omega
def Aay (listed : Array Bool) (i : Nat) : Bool:=listed.getD i true
theorem AeY {listed : Array Bool} {i : Nat} (h : i<listed.size) : Aay (listed.setIfInBounds i true)=fun k=>if k=i then true else Aay listed k:=by
 funext k
 simp only [Aay,Array.getD_eq_getD_getElem?]
 by_cases e : k=i
 ·subst e; simp [h]
 ·have hne : i≠k:=fun x=>e x.symm
  simp [Array.getElem?_setIfInBounds_ne hne,e]
structure AwI (P : Program) (l : List Oper) (st : List Step) (s : Nat→AV) (H : Aac) (N' : Nat) (n : Nat) (c0 : Cx) (w0 : World) (df : List Deferred) (E : Nat→Bool) (c : Cx) (a : Act) (w : World) : Prop where
 rel : Rel n c (fun t=>AgK (s t) (fun k=>(l[k]?.bind (·.dst))==some t) (fun k=>(st[k]?.map (·.x)).getD .undef) E l.length)
  (fun id=>AgK (H id) (fun k=>((st[k]?.map (·.W)).getD []).contains id) (fun k=>stH st H (k+1) id) E l.length) a w
 df : a.defers=df
 grow : Aeu c0 w0 c w
 un : ∀ i t,st[i]? = some t→E i=false→∀ id ∈ t.W,id ∉ t.T→c.ι id = .unused
 unN : AcF c N'
 closed : ∀ j o,l[j]? = some o→E j=true→∀ e ∈ o.after.toList,Region.binds .any e=true→E e.on=true
theorem AnZ {P : Program} {l : List Oper} {n : Nat} {s s' : Nat→AV} {H H' : Aac} {N N' : Nat} {st : List Step} {c0 : Cx} {w0 : World} {df : List Deferred} {Q : Exit→Act→World→Prop}
 (hok : AkY n l=true) (hb : AeN l=true) (hso : AiY l=true) (hio : Abi l (st.map fun t=>(t.T,t.W))=true)
 (htr : Tr P l.toArray l s H N st s' H' N')
 (hk : ∀ c a w,Rel n c s' H' a w→a.defers=df→Aeu c0 w0 c w→AcF c N'→Q .normal a w) :
 ∀ (fuel : Nat) (listed : Array Bool) (c : Cx) (a : Act) (w : World),listed.size=l.length→fuel+cnt (Aay listed) l.length=l.length →
  AwI P l st s H N' n c0 w0 df (Aay listed) c a w→wpAny P .any l.toArray Q fuel listed a w:=by
 obtain ⟨hlen,hS,hH,hN,hat⟩:=ArK l s H N st s' H' N' htr
 have hSok:=AhU hok
 have textS : ∀ t i,i≤l.length→AgK (s t) (fun k=>(l[k]?.bind (·.dst))==some t) (fun k=>(st[k]?.map (·.x)).getD .undef) (fun _=>true) i=stS l st s i t:=by
  intro t i
  induction i with
  | zero=>intro _; rfl
  | succ i ih =>
   intro hi
   have hl' : l[i]? = some l[i]:=by simp [show i<l.length from by omega]
   have hst : st[i]? = some (st[i]'(by omega)):=by simp [show i<st.length from by omega]
   have:=ih (by omega)
   simp only [AgK,Bool.true_and,stS,hl',hst,Option.bind_some,Option.map_some,Option.getD_some]
   cases hd : l[i].dst with
   | none=>simp [Ag0,this]
   | some d =>
    by_cases e : d=t
    ·subst e; simp [Ag0]
    ·have e' : t≠d:=fun x=>e x.symm
     simp [Ag0,upd,e,e',this]
 have textH : ∀ id i,i≤l.length→AgK (H id) (fun k=>((st[k]?.map (·.W)).getD []).contains id) (fun k=>stH st H (k+1) id) (fun _=>true) i=stH st H i id:=by
  intro id i
  induction i with
  | zero=>intro _; rfl
  | succ i ih =>
   intro hi
   have hl' : l[i]? = some l[i]:=by simp [show i<l.length from by omega]
   have hst : st[i]? = some (st[i]'(by omega)):=by simp [show i<st.length from by omega]
   have:=ih (by omega)
   simp only [AgK,Bool.true_and,hst,Option.map_some,Option.getD_some]
   by_cases e : id ∈ (st[i]'(by omega)).W
   ·simp [e]
   ·have hr:=(hat i _ _ hl' hst).rest id e
    have hc : (st[i]'(by omega)).W.contains id=false:=by simp [e]
    simp only [hc,Bool.false_eq_true,if_false]
    rw [this,← hr]
    simp [stH,hst]
 have hord : ∀ i j x y,i<j→j<l.length→l[i]? = some x→l[j]? = some y→Agt l x y=true→((ahead l).getD j 0).testBit i=true:=by
  intro i j x y hij hj hx hy hc
  have:=List.all_eq_true.1 (List.all_eq_true.1 hso j (by simpa using hj)) i (by simpa using hij)
  simp only [hx,hy,hc,Bool.not_true,Bool.false_or] at this
  exact this
 have hidord : ∀ i j t u,i<j→j<l.length→st[i]? = some t→st[j]? = some u→AfQ (t.T,t.W) (u.T,u.W)=true→((ahead l).getD j 0).testBit i=true:=by
  intro i j t u hij hj ht hu hc
  simp only [Abi,Bool.or_eq_true] at hio
  rcases hio with hio | hio
  ·exfalso
   have h1:=List.all_eq_true.1 hio (t.T,t.W) (List.mem_map.2 ⟨t,List.mem_of_getElem? ht,rfl⟩)
   have h2:=List.all_eq_true.1 hio (u.T,u.W) (List.mem_map.2 ⟨u,List.mem_of_getElem? hu,rfl⟩)
   simp only [List.isEmpty_iff] at h1 h2
   simp [AfQ,h1,h2] at hc
  ·have:=List.all_eq_true.1 (List.all_eq_true.1 hio j (by simpa using hj)) i (by simpa using hij)
   have e1 : (st.map fun t=>(t.T,t.W)).getD i ([],[])=(t.T,t.W):=by simp [List.getD_eq_getElem?_getD,ht]
   have e2 : (st.map fun t=>(t.T,t.W)).getD j ([],[])=(u.T,u.W):=by simp [List.getD_eq_getElem?_getD,hu]
   rw [e1,e2,hc] at this
   simpa using this
 intro fuel
 induction fuel with
 | zero =>
  intro listed c a w hsz hcnt inv
  have hall:=AlB (Aay listed) l.length (by omega)
  refine ⟨?_,?_⟩
  ·rw [List.eq_nil_iff_forall_not_mem]
   intro i hi
   simp only [Region.ready,List.mem_filter,List.mem_range,List.size_toArray,Bool.and_eq_true] at hi
   have:=hall i hi.1
   simp only [Aay] at this
   simp [this] at hi
  ·refine hk c a w ?_ inv.df inv.grow inv.unN
   have e1 : (fun t=>AgK (s t) (fun k=>(l[k]?.bind (·.dst))==some t) (fun k=>(st[k]?.map (·.x)).getD .undef) (Aay listed) l.length)=s':=by
    funext t
    rw [AhD _ _ _ _ _ (fun k hk _=>hall k hk),textS t _ (Nat.le_refl _),hS]
   have e2 : (fun id=>AgK (H id) (fun k=>((st[k]?.map (·.W)).getD []).contains id) (fun k=>stH st H (k+1) id) (Aay listed) l.length)=H':=by
    funext id
    rw [AhD _ _ _ _ _ (fun k hk _=>hall k hk),textH id _ (Nat.le_refl _),hH]
   have:=inv.rel
   rw [e1,e2] at this
   exact this
 | succ fuel ih =>
  intro listed c a w hsz hcnt inv
  have hclosed:=Ame l hb (Aay listed) inv.closed
  refine ⟨fun hnil=>?_,fun i hi=>?_⟩
  ·exfalso
   obtain ⟨i,h1,h2,h3⟩:=AmS (Aay listed) l.length (by omega)
   have hmem : i ∈ Region.ready .any l.toArray listed:=by
    simp only [Region.ready,List.mem_filter,List.mem_range,List.size_toArray,Bool.and_eq_true,h1,true_and]
    simp only [Aay] at h2
    refine ⟨by simp [h2],?_⟩
    have ho : l.toArray[i]? = some l[i]:=by simp [h1]
    simp only [ho,Option.map_some,Option.getD_some]
    refine Array.all_eq_true_iff_forall_mem.2 fun e he=>?_
    have hback:=List.all_eq_true.1 hb i (by simpa using h1)
    have ho' : l[i]? = some l[i]:=by simp [h1]
    simp only [ho'] at hback
    have hback:=Array.all_eq_true_iff_forall_mem.1 hback e he
    cases hbd : Region.binds .any e with
    | false=>simp
    | true =>
     simp only [hbd,Bool.not_true,Bool.false_or,decide_eq_true_eq] at hback ⊢
     have:=h3 e.on hback
     simp only [Aay] at this
     have hlt : e.on<listed.size:=by omega
     simp only [Array.getD,hlt] at this ⊢
     simpa using this
   rw [hnil] at hmem; simp at hmem
  ·simp only [Region.ready,List.mem_filter,List.mem_range,List.size_toArray,Bool.and_eq_true] at hi
   obtain ⟨hil,hnl,hedge⟩:=hi
   have hnl' : Aay listed i=false:=by simpa [Aay] using hnl
   have ho : l[i]? = some l[i]:=by simp [hil]
   have hst : st[i]? = some (st[i]'(by omega)):=by simp [show i<st.length from by omega]
   have ho' : l.toArray[i]? = some l[i]:=by simp [hil]
   have A:=hat i _ _ ho hst
   simp only [ho',Option.map_some,Option.getD_some] at hedge
   have hedge' : ∀ e ∈ l[i].after.toList,Region.binds .any e=true→Aay listed e.on=true:=by
    intro e he hbd
    have:=Array.all_eq_true_iff_forall_mem.1 hedge e (by simpa using he)
    simp only [hbd,Bool.not_true,Bool.false_or] at this
    have hback:=List.all_eq_true.1 hb i (by simpa using hil)
    simp only [ho] at hback
    have hback:=Array.all_eq_true_iff_forall_mem.1 hback e (by simpa using he)
    simp only [hbd,Bool.not_true,Bool.false_or,decide_eq_true_eq] at hback
    have hlt : e.on<listed.size:=by omega
    simp only [Aay,Array.getD,hlt] at this ⊢
    simpa using this
   have hpre : ∀ k,((ahead l).getD i 0).testBit k=true→Aay listed k=true:=by
    intro k hk
    obtain ⟨e,he,h1,h2,h3⟩:=Amd l i _ ho hb k hk
    have hE:=hedge' e he h1
    rcases h3 with rfl | h3
    ·exact hE
    ·exact hclosed e.on (by omega) hE k h3
   have hpost : ∀ k,i<k→k<l.length→((ahead l).getD k 0).testBit i=true→Aay listed k=false:=by
    intro k h1 h2 h3
    cases hk : Aay listed k with
    | false=>rfl
    | true=>have:=hclosed k h2 hk i h3; rw [hnl'] at this; cases this
   have slotEq : ∀ t,Ae4 l l[i] t=true→AgK (s t) (fun k=>(l[k]?.bind (·.dst))==some t) (fun k=>(st[k]?.map (·.x)).getD .undef) (Aay listed) l.length=stS l st s i t:=by
    intro t ht
    rw [Adr _ _ _ _ i l.length (by omega) ?_,AhD _ _ _ _ i ?_,textS t i (by omega)]
    ·intro k hk hw
     have hk' : l[k]? = some l[k]:=by simp [show k<l.length from by omega]
     simp only [hk',Option.bind_some,beq_iff_eq] at hw
     exact hpre k (hord k i _ _ hk hil hk' ho (by simp [Agt,hw,ht]))
    ·intro k h1 h2 hw
     have hk' : l[k]? = some l[k]:=by simp [h2]
     simp only [hk',Option.bind_some,beq_iff_eq] at hw
     by_cases e : k=i
     ·subst e; exact hnl'
     ·exact hpost k (by omega) h2 (hord i k _ _ (by omega) h2 ho hk' (by
       simp only [Agt,hw,ht,Bool.or_true]))
   have idEq : ∀ id,id ∈ (st[i]'(by omega)).T→AgK (H id) (fun k=>((st[k]?.map (·.W)).getD []).contains id) (fun k=>stH st H (k+1) id) (Aay listed) l.length=stH st H i id:=by
    intro id hid
    rw [Adr _ _ _ _ i l.length (by omega) ?_,AhD _ _ _ _ i ?_,textH id i (by omega)]
    ·intro k hk hw
     have hk' : st[k]? = some (st[k]'(by omega)):=by simp [show k<st.length from by omega]
     simp only [hk',Option.map_some,Option.getD_some,List.contains_eq_mem,decide_eq_true_eq] at hw
     refine hpre k (hidord k i _ _ hk hil hk' hst ?_)
     simp only [AfQ,Bool.or_eq_true,List.any_eq_true]
     exact .inl ⟨id,hw,.inl (by simpa using hid)⟩
    ·intro k h1 h2 hw
     have hk' : st[k]? = some (st[k]'(by omega)):=by simp [show k<st.length from by omega]
     simp only [hk',Option.map_some,Option.getD_some,List.contains_eq_mem,decide_eq_true_eq] at hw
     by_cases e : k=i
     ·subst e; exact hnl'
     ·refine hpost k (by omega) h2 (hidord i k _ _ (by omega) h2 hst hk' ?_)
      simp only [AfQ,Bool.or_eq_true,List.any_eq_true]
      exact .inr ⟨id,hw,by simpa using hid⟩
   unfold wpOp
   simp only [ho']
   have hgd : AcI l.toArray l[i] (fun t=>AgK (s t) (fun k=>(l[k]?.bind (·.dst))==some t) (fun k=>(st[k]?.map (·.x)).getD .undef) (Aay listed) l.length) (st[i]'(by omega)).ex:=by
    have hg:=A.guard
    unfold AcI at hg ⊢
    cases hgu : l[i].guard with
    | none=>rw [hgu] at hg; exact hg
    | some p =>
     obtain ⟨j,want⟩:=p
     rw [hgu] at hg
     simp only at hg ⊢
     obtain ⟨d,hd,hg⟩:=hg
     refine ⟨d,hd,?_⟩
     have hr : Ae4 l l[i] d=true:=by
      simp only [Ae4,hgu,Bool.or_eq_true]
      right
      simp only [List.getElem?_toArray] at hd
      simp [hd]
     rw [slotEq d hr]
     exact hg
   refine ApK (t:=st[i]'(by omega)) (s:=stS l st s i) (H:=stH st H i) (hSok _ (List.mem_of_getElem? ho)) inv.rel hgd A.op A.skip ?_ ?_ ?_ _ _ ?_
   ·intro _ u hu
    exact slotEq u (by simp [Ae4,hu])
   ·intro id hid
    exact idEq id hid
   ·intro id h1 h2
    exact inv.un i _ hst hnl' id h1 h2
   ·intro c' a' w' hrel' hdf' hgr' hun'
    refine ih _ c' a' w' (by simpa using hsz) ?_ ?_
    ·rw [AeY (by omega),Aqc _ _ hnl',if_pos hil]; omega
    ·refine ⟨?_,hdf'.trans inv.df,inv.grow.trans hgr',?_,?_,?_⟩
     ·rw [AeY (by omega)]
      have e1 : Ag0 (fun t=>AgK (s t) (fun k=>(l[k]?.bind (·.dst))==some t) (fun k=>(st[k]?.map (·.x)).getD .undef) (Aay listed) l.length) l[i].dst (st[i]'(by omega)).x =
       (fun t=>AgK (s t) (fun k=>(l[k]?.bind (·.dst))==some t) (fun k=>(st[k]?.map (·.x)).getD .undef) (fun k=>if k=i then true else Aay listed k) l.length):=by
       funext t
       by_cases hd : l[i].dst=some t
       ·rw [AoH _ _ _ _ i l.length hil (by simp [ho,hd]) ?_]
        ·simp [Ag0,hd,hst]
        ·intro k h1 h2 hw
         have hk' : l[k]? = some l[k]:=by simp [h2]
         simp only [hk',Option.bind_some,beq_iff_eq] at hw
         exact hpost k h1 h2 (hord i k _ _ h1 h2 ho hk' (by simp [Agt,hd,hw]))
       ·have : Ag0 (fun t=>AgK (s t) (fun k=>(l[k]?.bind (·.dst))==some t) (fun k=>(st[k]?.map (·.x)).getD .undef) (Aay listed) l.length) l[i].dst (st[i]'(by omega)).x t =
         AgK (s t) (fun k=>(l[k]?.bind (·.dst))==some t) (fun k=>(st[k]?.map (·.x)).getD .undef) (Aay listed) l.length:=by
         cases hdd : l[i].dst with
         | none=>rfl
         | some d =>
          have : t≠d:=fun e=>hd (by rw [hdd,e])
          simp [Ag0,upd,this]
        rw [this]
        refine Ahj _ _ _ _ _ _ (fun k hk hw=>?_)
        have : k≠i:=by
         intro e; subst e
         simp only [ho,Option.bind_some,beq_iff_eq] at hw
         exact hd hw
        simp [this]
      have e2 : (fun id=>if id ∈ (st[i]'(by omega)).W then (st[i]'(by omega)).H id else AgK (H id) (fun k=>((st[k]?.map (·.W)).getD []).contains id) (fun k=>stH st H (k+1) id) (Aay listed) l.length) =
       (fun id=>AgK (H id) (fun k=>((st[k]?.map (·.W)).getD []).contains id) (fun k=>stH st H (k+1) id) (fun k=>if k=i then true else Aay listed k) l.length):=by
       funext id
       by_cases hid : id ∈ (st[i]'(by omega)).W
       ·rw [if_pos hid,AoH _ _ _ _ i l.length hil (by simp [hst,hid]) ?_]
        ·simp [stH,hst]
        ·intro k h1 h2 hw
         have hk' : st[k]? = some (st[k]'(by omega)):=by simp [show k<st.length from by omega]
         simp only [hk',Option.map_some,Option.getD_some,List.contains_eq_mem,decide_eq_true_eq] at hw
         refine hpost k h1 h2 (hidord i k _ _ h1 h2 hst hk' ?_)
         simp only [AfQ,Bool.or_eq_true,List.any_eq_true]
         exact .inl ⟨id,hid,.inr (by simpa using hw)⟩
       ·rw [if_neg hid]
        refine Ahj _ _ _ _ _ _ (fun k hk hw=>?_)
        have : k≠i:=by
         intro e; subst e
         simp only [hst,Option.map_some,Option.getD_some,List.contains_eq_mem,decide_eq_true_eq] at hw
         exact hid hw
        simp [this]
      rw [← e1,← e2]; exact hrel'
     ·rw [AeY (by omega)]
      intro j t ht hj id h1 h2
      have hji : j≠i:=by intro e; subst e; simp at hj
      simp only [hji,if_false] at hj
      refine hun' id (inv.un j t ht hj id h1 h2) (fun hw=>?_)
      have hjl : j<l.length:=by have:=(List.getElem?_eq_some_iff.1 ht).1; omega
      have hlo : l[j]? = some l[j]:=by simp [hjl]
      have B:=hat j _ _ hlo ht
      have hnb:=(B.wn id h1).2 h2
      have hna:=(A.wn id hw).1
      by_cases hlt : i<j
      ·have:=Afz hlen hat (i+1) j (by omega) (by omega)
       have e : stN st N (i+1)=(st[i]'(by omega)).N:=by simp only [stN,hst]
       omega
      ·have hc : AfQ (t.T,t.W) ((st[i]'(by omega)).T,(st[i]'(by omega)).W)=true:=by
        simp only [AfQ,Bool.or_eq_true,List.any_eq_true]
        exact .inl ⟨id,h1,.inr (by simpa using hw)⟩
       have:=hpre j (hidord j i _ _ (by omega) hil ht hst hc)
       rw [hj] at this; cases this
     ·intro id hid
      refine hun' id (inv.unN id hid) (fun hw=>?_)
      have:=(A.wn id hw).1
      have h2:=Afz hlen hat (i+1) l.length (by omega) (by omega)
      have e : stN st N (i+1)=(st[i]'(by omega)).N:=by simp only [stN,hst]
      rw [hN] at h2
      omega
     ·rw [AeY (by omega)]
      intro j o hjo hj e he hbd
      by_cases hji : j=i
      ·subst hji
       rw [ho] at hjo; cases hjo
       have:=hedge' e he hbd
       by_cases h3 : e.on=j
       ·simp [h3]
       ·simp [h3,this]
      ·simp only [hji,if_false] at hj
       have:=inv.closed j o hjo hj e he hbd
       by_cases h3 : e.on=i
       ·simp [h3]
       ·simp [h3,this]
end Go.Abs
