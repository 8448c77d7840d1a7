import Derived.Test.YthiodjlppahmkaaGreatExtLay2
import Derived.WalkKit
set_option linter.unusedVariables false
set_option linter.unusedSimpArgs false
namespace Go.Abs
open Go.RowKit (Below)
def Aap (P : Program) (t : TypeId) : Option (TypeId×Nat×Nat) :=
 match P.underlying t with
 | some (.slice e) =>
  match P.info? e with
  | some i=>match i.zero with
   | some z=>if z.cells.size=i.size then some (e,i.size,i.bytes) else none
   | none=>none
  | none=>none
 | _=>none
def Aa8 (P : Program) (t : TypeId) : Option Nat:=(P.info? t).map (·.size)
def Ab1 (P : Program) (t : TypeId) : Option Bool :=
 match P.underlying t with
 | some (.struct _) | some (.array _ _)=>some true
 | some _=>some false
 | none=>none
def Aet (P : Program) (t : TypeId) : Option (Nat×Nat) :=
 match P.underlying t with
 | some (.array n e)=>(P.info? e).map fun i=>(n,i.size)
 | _=>none
def Abz (P : Program) (t : TypeId) (f : Nat) : Option Nat :=
 match P.underlying t with
 | some (.struct fs) =>
  match fs[f]? with
  | some g=>match P.info? g.type with
   | some i=>if i.size=0 then none else some g.offset
   | none=>none
  | none=>none
 | _=>none
def ofS : Value→AV
 | .bool b => .bool b
 | .int k n => .int k n
 | .string s => .str s
 | .pointer none => .nilptr
 | .slice none _ _ => .lst true true []
 | .map none => .nilmap
 | .nilFunc => .nilfn
 | .nilIface => .nilifc
 | _ => .undef
def okS : Value→Bool
 | .int k n=>decide (k.min≤n)&&decide (n≤k.max)
 | .string s=>decide (s.size≤maxLen)
 | .slice none a b=>a==0&&b==0
 | _=>true
def ofV : Value→AV
 | .agg cs => .agg (cs.toList.map ofS)
 | .func (.func f) a b=>if a.size=0∧b.size=0 then .fn f [] else .undef
 | v=>ofS v
def okV : Value→Bool
 | .agg cs=>cs.toList.all okS
 | v=>okS v
theorem AnB (c : Cx) (v : Value) (h : okS v=true) : Rep c (ofS v) v:=by
 unfold ofS
 split <;> simp only [Rep] <;> simp_all [okS,InR]
theorem Af3 (c : Cx) : ∀ (l : List Value),l.all okS=true→AaD c (l.map ofS) l
 | [],_=>by simp [AaD]
 | v::l,h=>by
  simp only [List.all_cons,Bool.and_eq_true] at h
  simp only [List.map_cons,AaD]
  exact ⟨v,l,rfl,AnB c v h.1,Af3 c l h.2⟩
theorem AnA (c : Cx) (v : Value) (h : okV v=true) : Rep c (ofV v) v:=by
 unfold ofV
 split
 ·rename_i cs
  simp only [Rep]
  exact ⟨cs,rfl,Af3 c _ h⟩
 ·rename_i f a b
  split
  ·rename_i hs
   obtain ⟨h1,h2⟩:=hs
   have h1 : a = #[]:=Array.size_eq_zero_iff.1 h1
   have h2 : b = #[]:=Array.size_eq_zero_iff.1 h2
   subst h1; subst h2
   simp only [Rep]
   exact ⟨#[],rfl,by simp [AaD]⟩
  ·simp [Rep]
 ·rename_i h1 h2
  apply AnB
  unfold okV at h
  split at h
  ·exact absurd rfl (h1 _)
  ·exact h
def AbW (P : Program) (t : TypeId) : Option (List AV) :=
 match (P.info? t).bind (·.zero) with
 | some v=>if okV v&&decide (v.cells.size=((P.info? t).map (·.size)).getD 0) then some (v.cells.toList.map ofS) else none
 | none=>none
def ev (s : Nat→AV) : Operand→AV
 | .tmp t=>s t
 | .const v=>ofV v
 | .global _ => .undef
 | .func f => .fn f []
def AsX : Operand→Bool
 | .const v=>okV v
 | _=>true
def AaY (o : Oper) : Bool:=o.op.operands.toList.all AsX
theorem Aaj {n : Nat} {c : Cx} {s s1 : Nat→AV} {H : Aac} {a : Act} {w : World} (h : Rel n c s1 H a w) {o : Oper} (hu : ∀ t ∈ Aey o,s1 t=s t∧t<n) (hc : AaY o=true) {x : Operand}
 (hx : x ∈ o.op.operands.toList) : Rep c (ev s x) (a.eval x):=by
 cases x with
 | tmp t =>
  have ht : t ∈ Aey o:=List.mem_filterMap.2 ⟨.tmp t,hx,rfl⟩
  obtain ⟨h1,h2⟩:=hu t ht
  have:=h.slot t h2
  rw [h1] at this
  exact this
 | const v=>exact AnA c v (by simpa [AsX] using List.all_eq_true.1 hc _ hx)
 | global g=>simp [ev,Rep]
 | func f=>simp only [ev,Rep]; exact ⟨#[],rfl,by simp [AaD]⟩
structure Aao (P : Program) (o : Oper) (s : Nat→AV) (H : Aac) (N : Nat) (x : AV) (H' : Aac) (N' : Nat) (T W : List Nat) : Prop where
 op : OpT P o s H x H' T W
 rest : ∀ id,id ∉ W→H' id=H id
 n : N≤N'
 tn : ∀ id ∈ T,id<N'
 wn : ∀ id ∈ W,id<N'∧(id ∉ T→N≤id)
theorem Aao.read {P : Program} {o : Oper} {s : Nat→AV} {H : Aac} {N : Nat} {x : AV} (T : List Nat) (hT : ∀ id ∈ T,id<N)
 (h : ∀ (n : Nat) (c : Cx) (s1 : Nat→AV) (H1 : Aac) (a : Act) (w : World),Rel n c s1 H1 a w→(∀ t ∈ Aey o,s1 t=s t∧t<n)→(∀ id ∈ T,H1 id=H id) →
  ∃ v,(execOp a.eval o).run P w = .ok (.value v) w∧Rep c x v) : Aao P o s H N x H N T [] where
 op:=by
  intro n c s1 H1 a w hrel hu hT' _ K Q hk
  obtain ⟨v,hv,hx⟩:=h n c s1 H1 a w hrel hu hT'
  unfold Oper.wp
  rw [hv,Oper.upon_value]
  refine hk c v w ?_ hx (.refl c w) (fun id h _=>h)
  simpa using hrel.hr
 rest:=fun _ _=>rfl
 n:=Nat.le_refl _
 tn:=hT
 wn:=fun _ h=>by simp at h
theorem AcX.eqH {c : Cx} {H H' : Aac} {w : World} (h : AcX c H w) (e : H'=H) : AcX c H' w:=e ▸ h
theorem Aao.new {P : Program} {o : Oper} {s : Nat→AV} {H : Aac} {N : Nat} {x : AV} (obj : AaZ) (T : List Nat) (hT : ∀ id ∈ T,id<N)
 (h : ∀ (n : Nat) (c : Cx) (s1 : Nat→AV) (H1 : Aac) (a : Act) (w : World),Rel n c s1 H1 a w→(∀ t ∈ Aey o,s1 t=s t∧t<n)→(∀ id ∈ T,H1 id=H id)→c.ι N = .unused →
  ∃ v y w1 base sz,(execOp a.eval o).run P w = .ok (.value v) w1∧w1.heap=w.heap.push y∧w1.os=w.os∧w1.tape=w.tape∧w1.output=w.output ∧
   (c.Le ⟨c.Z,upd c.ι N (.live w.heap.size base sz),w.heap.push y⟩→AbQ ⟨c.Z,upd c.ι N (.live w.heap.size base sz),w.heap.push y⟩ obj w.heap.size base sz ∧
    Rep ⟨c.Z,upd c.ι N (.live w.heap.size base sz),w.heap.push y⟩ x v)) :
 Aao P o s H N x (upd H N (some obj)) (N+1) T [N] where
 op:=by
  intro n c s1 H1 a w hrel hu hT' hW K Q hk
  have hun:=hW N (by simp) (fun h=>by have:=hT N h; omega)
  obtain ⟨v,y,w1,base,sz,hv,hh,h1,h2,h3,hx⟩:=h n c s1 H1 a w hrel hu hT' hun
  have hLe : c.Le ⟨c.Z,upd c.ι N (.live w.heap.size base sz),w.heap.push y⟩:=by
   refine ⟨fun _ h=>h,fun b hb o v hv=>?_,fun i hi=>?_,fun i b y z hi hl=>?_,fun i hi hl=>?_⟩
   ·have:=hrel.hr.zlt b hb
    rw [AeO this,← hrel.hr.heap]; exact hv
   ·simp only [upd]; split <;> simp_all
   ·simp only [upd] at hl
    split at hl
    ·subst i; exact absurd hun hi
    ·exact hl
   ·simp only [upd] at hl
    split at hl
    ·cases hl
    ·exact hl
  obtain ⟨ho,hx⟩:=hx hLe
  obtain ⟨hr,g⟩:=hrel.hr.alloc hun obj y base sz ho
  unfold Oper.wp
  rw [hv,Oper.upon_value]
  have e : w1.heap=(w.alloc y).heap:=hh
  refine hk _ v w1 ((hr.world e).eqH ?_) hx (g.trans (Aeu.world e h1 h2 h3)) ?_
  ·funext id
   by_cases h : id=N
   ·subst h; simp
   ·simp [h,upd]
  ·intro id h1 h2
   simp only [upd]
   rw [if_neg (by simpa using h2)]; exact h1
 rest:=fun id h=>AbV _ _ (by simpa using h)
 n:=by omega
 tn:=fun id h=>by have:=hT id h; omega
 wn:=fun id h=>by simp at h; subst h; exact ⟨by omega,fun _=>Nat.le_refl _⟩
theorem Aao.newZ {P : Program} {o : Oper} {s : Nat→AV} {H : Aac} {N : Nat} {x : AV} (T : List Nat) (hT : ∀ id ∈ T,id<N)
 (h : ∀ (n : Nat) (c : Cx) (s1 : Nat→AV) (H1 : Aac) (a : Act) (w : World),Rel n c s1 H1 a w→(∀ t ∈ Aey o,s1 t=s t∧t<n)→(∀ id ∈ T,H1 id=H id) →
  ∃ v y w1,(execOp a.eval o).run P w = .ok (.value v) w1∧w1.heap=w.heap.push y∧w1.os=w.os∧w1.tape=w.tape∧w1.output=w.output ∧
   (c.Le ⟨fun b=>c.Z b∨b=w.heap.size,c.ι,w.heap.push y⟩→Rep ⟨fun b=>c.Z b∨b=w.heap.size,c.ι,w.heap.push y⟩ x v)) :
 Aao P o s H N x H N T [] where
 op:=by
  intro n c s1 H1 a w hrel hu hT' _ K Q hk
  obtain ⟨v,y,w1,hv,hh,h1,h2,h3,hx⟩:=h n c s1 H1 a w hrel hu hT'
  obtain ⟨hr,g⟩:=hrel.hr.allocZ y
  unfold Oper.wp
  rw [hv,Oper.upon_value]
  have e : w1.heap=(w.alloc y).heap:=hh
  exact hk _ v w1 ((hr.world e).eqH (by simp)) (hx g.le) (g.trans (Aeu.world e h1 h2 h3)) (fun id h1 _=>h1)
 rest:=fun _ _=>rfl
 n:=Nat.le_refl _
 tn:=hT
 wn:=fun _ h=>by simp at h
theorem Aao.write {P : Program} {o : Oper} {s : Nat→AV} {H : Aac} {N : Nat} (id : Nat) (obj obj' : AaZ) (hid : id<N) (ho : H id=some obj) (hng : obj ≠ .grow []) (x : AV) (T : List Nat) (hT : ∀ i ∈ T,i<N) (hmem : id ∈ T)
 (h : ∀ (n : Nat) (c : Cx) (s1 : Nat→AV) (H1 : Aac) (a : Act) (w : World),Rel n c s1 H1 a w→(∀ t ∈ Aey o,s1 t=s t∧t<n)→(∀ i ∈ T,H1 i=H i) →
  ∀ b base sz,c.ι id = .live b base sz→AbQ c obj b base sz →
  ∃ w1 u v,((u = .skip∧v=Go.undef)∨u = .value v)∧(execOp a.eval o).run P w = .ok u w1∧w1.heap.size=w.heap.size∧(∀ k,k≠b→w1.heap[k]? = w.heap[k]?)∧w1.os=w.os∧w1.tape=w.tape∧w1.output=w.output ∧
   (c.Le ⟨c.Z,c.ι,w1.heap⟩→AbQ ⟨c.Z,c.ι,w1.heap⟩ obj' b base sz∧Rep ⟨c.Z,c.ι,w1.heap⟩ x v)) :
 Aao P o s H N x (upd H id (some obj')) N T [id] where
 op:=by
  intro n c s1 H1 a w hrel hu hT' hW K Q hk
  have h1 : H1 id=some obj:=(hT' id hmem).trans ho
  obtain ⟨b,base,sz,hl,hor⟩:=hrel.hr.live_of h1 hng
  obtain ⟨w1,u,v,huv,hv,hs,hkp,e1,e2,e3,hobj⟩:=h n c s1 H1 a w hrel hu hT' b base sz hl hor
  obtain ⟨hr,g⟩:=hrel.hr.modify hl hs hkp e1 e2 e3 obj' (fun L=>(hobj L).1)
  have hn : K (a.put o.dst v) w1:=by
   refine hk _ v w1 (hr.eqH ?_) ((hobj g.le).2) g (fun i h1 _=>h1)
   funext i
   by_cases h : i=id
   ·subst h; simp
   ·simp [h,upd]
  unfold Oper.wp
  rw [hv]
  rcases huv with ⟨rfl,rfl⟩ | rfl
  ·rw [Oper.upon_skip]; exact hn
  ·rw [Oper.upon_value]; exact hn
 rest:=fun i h=>AbV _ _ (by simpa using h)
 n:=Nat.le_refl _
 tn:=hT
 wn:=fun i h=>by simp at h; subst h; exact ⟨hid,fun h=>absurd hmem h⟩
end Go.Abs
