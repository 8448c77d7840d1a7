import Derived.Test.YthiodjlppahmkaaGreatExtLay11
set_option linter.unusedVariables false
set_option linter.unusedSimpArgs false
namespace Go.Abs
open Go.RowKit (Below)
def St (n : Nat) (c0 : Cx) (w0 : World) (s : Nat→AV) (H : Aac) (N : Nat) (a : Act) (w : World) : Prop :=
 ∃ c,Rel n c s H a w∧a.defers = []∧Aeu c0 w0 c w∧AcF c N
abbrev AcH:=Exit→(Nat→AV)→Aac→Nat→Prop
def AcH.real (n : Nat) (c0 : Cx) (w0 : World) (Q : AcH) (e : Exit) (a : Act) (w : World) : Prop:=∃ s H N,Q e s H N∧St n c0 w0 s H N a w
def AW (P : Program) (n : Nat) (c0 : Cx) (w0 : World) (code : Code) (Q : AcH) (s : Nat→AV) (H : Aac) (N : Nat) : Prop :=
 ∀ a w,St n c0 w0 s H N a w→code.wp P (Q.real n c0 w0) a w
def AcH.then (K : (Nat→AV)→Aac→Nat→Prop) (Q : AcH) : AcH
 | .normal,s,H,N=>K s H N
 | e,s,H,N=>Q e s H N
def AcH.inBlock (id : Nat) (Q : AcH) : AcH
 | .exit id',s,H,N=>if id'=id then Q .normal s H N else Q (.exit id') s H N
 | e,s,H,N=>Q e s H N
def AcH.noGoto (Q : AcH) : AcH
 | .goto _,_,_,_=>False
 | e,s,H,N=>Q e s H N
@[simp] theorem AcH.noGoto_normal {Q : AcH} {s : Nat→AV} {H : Aac} {N : Nat} : AcH.noGoto Q .normal s H N=Q .normal s H N:=rfl
@[simp] theorem AcH.noGoto_ret {Q : AcH} {s : Nat→AV} {H : Aac} {N : Nat} : AcH.noGoto Q .ret s H N=Q .ret s H N:=rfl
@[simp] theorem AcH.noGoto_exit {Q : AcH} {s : Nat→AV} {H : Aac} {N j : Nat} : AcH.noGoto Q (.exit j) s H N=Q (.exit j) s H N:=rfl
@[simp] theorem AcH.then_normal {K : (Nat→AV)→Aac→Nat→Prop} {Q : AcH} {s : Nat→AV} {H : Aac} {N : Nat} : AcH.then K Q .normal s H N=K s H N:=rfl
@[simp] theorem AcH.then_exit {K : (Nat→AV)→Aac→Nat→Prop} {Q : AcH} {s : Nat→AV} {H : Aac} {N i : Nat} : AcH.then K Q (.exit i) s H N=Q (.exit i) s H N:=rfl
@[simp] theorem AcH.then_ret {K : (Nat→AV)→Aac→Nat→Prop} {Q : AcH} {s : Nat→AV} {H : Aac} {N : Nat} : AcH.then K Q .ret s H N=Q .ret s H N:=rfl
@[simp] theorem AcH.inBlock_normal {Q : AcH} {s : Nat→AV} {H : Aac} {N i : Nat} : AcH.inBlock i Q .normal s H N=Q .normal s H N:=rfl
@[simp] theorem AcH.inBlock_ret {Q : AcH} {s : Nat→AV} {H : Aac} {N i : Nat} : AcH.inBlock i Q .ret s H N=Q .ret s H N:=rfl
@[simp] theorem AcH.inBlock_exit {Q : AcH} {s : Nat→AV} {H : Aac} {N i j : Nat} : AcH.inBlock i Q (.exit j) s H N=if j=i then Q .normal s H N else Q (.exit j) s H N:=rfl
section
variable {P : Program} {n : Nat} {c0 : Cx} {w0 : World} {Q : AcH} {s : Nat→AV} {H : Aac} {N : Nat}
theorem AW.mono {x : Code} {Q' : AcH} (h : AW P n c0 w0 x Q s H N) (hq : ∀ e s H N,Q e s H N→Q' e s H N) : AW P n c0 w0 x Q' s H N :=
 fun a w hs=>wp_mono (h a w hs) fun e a w ⟨s,H,N,h1,h2⟩=>⟨s,H,N,hq e s H N h1,h2⟩
theorem AW.seq {x y : Code} (h : ∀ K : (Nat→AV)→Aac→Nat→Prop,(∀ s H N,AW P n c0 w0 y Q s H N→K s H N)→AW P n c0 w0 x (AcH.then K Q) s H N) : AW P n c0 w0 (.seq x y) Q s H N:=by
 intro a w hs
 refine wp_seq (wp_mono (h (fun s H N=>AW P n c0 w0 y Q s H N) (fun _ _ _ h=>h) a w hs) fun e a w ⟨s,H,N,h1,h2⟩=>?_)
 cases e with
 | normal=>exact h1 a w h2
 | _=>exact ⟨s,H,N,h1,h2⟩
theorem AW.skip (h : Q .normal s H N) : AW P n c0 w0 .skip Q s H N:=fun a w hs=>wp_skip ⟨s,H,N,h,hs⟩
theorem AW.label {l : Nat} (h : Q .normal s H N) : AW P n c0 w0 (.label l) Q s H N:=fun a w hs=>wp_label ⟨s,H,N,h,hs⟩
theorem AW.exit {id : Nat} (h : Q (.exit id) s H N) : AW P n c0 w0 (.exit id) Q s H N:=fun a w hs=>wp_exit ⟨s,H,N,h,hs⟩
theorem AW.ret (h : Q .ret s H N) : AW P n c0 w0 .ret Q s H N:=fun a w hs=>wp_ret ⟨s,H,N,h,hs⟩
theorem AW.block {id : Nat} {c : Code} (h : AW P n c0 w0 c (AcH.inBlock id Q) s H N) : AW P n c0 w0 (.block id c) Q s H N:=by
 intro a w hs
 refine wp_block (wp_mono (h a w hs) fun e a w ⟨s,H,N,h1,h2⟩=>?_)
 cases e with
 | exit i =>
  simp only [AcH.inBlock] at h1
  simp only [Exit.inBlock]
  split
  ·rw [if_pos ‹_›] at h1; exact ⟨s,H,N,h1,h2⟩
  ·rw [if_neg ‹_›] at h1; exact ⟨s,H,N,h1,h2⟩
 | _=>exact ⟨s,H,N,h1,h2⟩
theorem AW.scope {c : Code} (h : AW P n c0 w0 c (AcH.noGoto Q) s H N) : AW P n c0 w0 (.scope c) Q s H N:=by
 intro a w hs
 refine wp_scope_straight (wp_mono (h a w hs) fun e a w ⟨s,H,N,h1,h2⟩=>?_)
 cases e with
 | goto l=>exact h1
 | _=>exact ⟨s,H,N,h1,h2⟩
theorem St.eval {a : Act} {w : World} (hs : St n c0 w0 s H N a w) {t : Nat} (ht : t<n) : ∃ c,Rel n c s H a w∧Rep c (s t) (a.eval (.tmp t)):=by
 obtain ⟨c,hr,_⟩:=hs
 exact ⟨c,hr,hr.slot t ht⟩
theorem AW.cond {t : Nat} {x y : Code} (ht : decide (t<n)=true) (b : Bool) (hb : s t = .bool b) (h1 : b=true→AW P n c0 w0 x Q s H N) (h2 : b=false→AW P n c0 w0 y Q s H N) : AW P n c0 w0 (.cond (.tmp t) x y) Q s H N:=by
 intro a w hs
 obtain ⟨c,hr,hx⟩:=hs.eval (by simpa using ht)
 rw [hb] at hx
 simp only [Rep] at hx
 exact wp_cond_split hx (fun h=>h1 h a w hs) (fun h=>h2 h a w hs)
theorem AW.condC {b : Bool} {x y : Code} (h1 : b=true→AW P n c0 w0 x Q s H N) (h2 : b=false→AW P n c0 w0 y Q s H N) : AW P n c0 w0 (.cond (.const (.bool b)) x y) Q s H N :=
 fun a w hs=>wp_cond_split rfl (fun h=>h1 h a w hs) (fun h=>h2 h a w hs)
theorem AW.condCT {x y : Code} (h1 : AW P n c0 w0 x Q s H N) : AW P n c0 w0 (.cond (.const (.bool true)) x y) Q s H N:=AW.condC (fun _=>h1) (fun h=>by cases h)
theorem AW.condCF {x y : Code} (h1 : AW P n c0 w0 y Q s H N) : AW P n c0 w0 (.cond (.const (.bool false)) x y) Q s H N:=AW.condC (fun h=>by cases h) (fun _=>h1)
def mkS (l : List (Nat×AV)) (t : Nat) : AV:=match l.find? (fun p=>p.1==t) with | some p=>p.2 | none => .undef
def mkH (l : List (Nat×AaZ)) : Aac:=fun i=>(l.find? (fun p=>p.1==i)).map (·.2)
def Aei.dim : Aei→Aei
 | .unused => .unused
 | _ => .dead
theorem Aei.dim_unused {x : Aei} : x.dim = .unused↔x = .unused:=by cases x <;> simp [Aei.dim]
theorem Aei.dim_live {x : Aei} {b y z : Nat} : x.dim ≠ .live b y z:=by cases x <;> simp [Aei.dim]
theorem Aei.dim_emp {x : Aei} : x.dim ≠ .emp:=by cases x <;> simp [Aei.dim]
theorem least (p : Nat→Prop) (h : ∃ k,p k) : ∃ k,p k∧∀ j,p j→k≤j:=by
 obtain ⟨k,hk⟩:=h
 induction k using Nat.strongRecOn with
 | _ k ih =>
  by_cases hs : ∃ j,p j∧j<k
  ·obtain ⟨j,h1,h2⟩:=hs; exact ih j h2 h1
  ·exact ⟨k,hk,fun j hj=>by
    by_cases h : k≤j
    ·exact h
    ·exact absurd ⟨j,hj,by omega⟩ hs⟩
theorem Ayo (c : Cx) (H : Aac) (w : World) (h : AcX c H w) (S : Nat→Prop) [DecidablePred S] :
 AcX ⟨c.Z,fun i=>if S i then c.ι i else (c.ι i).dim,c.h⟩ (fun i=>if S i then H i else none) w ∧
 Aeu c w ⟨c.Z,fun i=>if S i then c.ι i else (c.ι i).dim,c.h⟩ w:=by
 have lv : ∀ i b y z,(if S i then c.ι i else (c.ι i).dim) = .live b y z→S i∧c.ι i = .live b y z:=by
  intro i b y z hl
  split at hl
  ·exact ⟨by assumption,hl⟩
  ·exact absurd hl Aei.dim_live
 have L : c.Le ⟨c.Z,fun i=>if S i then c.ι i else (c.ι i).dim,c.h⟩:=by
  refine ⟨fun _ h=>h,fun _ _ _ _ h=>h,fun i hi=>?_,fun i b y z hi hl=>(lv i b y z hl).2,fun i hi hl=>?_⟩
  ·simp only []
   split
   ·exact hi
   ·exact fun h=>hi (Aei.dim_unused.1 h)
  ·simp only [] at hl
   split at hl
   ·exact hl
   ·exact absurd hl Aei.dim_emp
 refine ⟨⟨h.heap,?_,?_,?_,?_,?_,h.zlt,?_⟩,⟨L,fun b h => .inl h,fun i b y z hl => .inr ⟨i,y,z,(lv i b y z hl).2⟩,fun _ _ _=>rfl,Nat.le_refl _,rfl,rfl,rfl⟩⟩
 ·intro i b y z hl
  obtain ⟨hS,hl'⟩:=lv i b y z hl
  obtain ⟨o,h1,h2⟩:=h.obj i b y z hl'
  exact ⟨o,by simp [hS,h1],h2.mono L rfl⟩
 ·intro i hi
  simp only [] at hi ⊢
  split at hi
  ·rw [if_pos ‹_›]; exact h.emp i hi
  ·exact absurd hi Aei.dim_emp
 ·intro i hi hm
  simp only [] at hi hm ⊢
  by_cases hS : S i
  ·simp only [hS,if_true] at hi hm ⊢; exact h.non i hi hm
  ·simp [hS]
 ·intro i j b y z y' z' e1 e2
  exact h.inj i j b y z y' z' (lv _ _ _ _ e1).2 (lv _ _ _ _ e2).2
 ·intro i b y z e1
  exact h.sep i b y z (lv _ _ _ _ e1).2
 ·obtain ⟨B,hB⟩:=h.fin
  refine ⟨B,fun i hi=>?_⟩
  have:=hB i hi
  simp [this,Aei.dim]
theorem St.weak {a : Act} {w : World} (hs : St n c0 w0 s H N a w) (l : List (Nat×AV)) (hl : List (Nat×AaZ)) (N' : Nat) (h1 : ∀ p ∈ l,s p.1=p.2) (h2 : ∀ p ∈ hl,H p.1=some p.2) (hN : N≤N') : St n c0 w0 (mkS l) (mkH hl) N' a w:=by
 obtain ⟨c,hr,hd,g,hu⟩:=hs
 obtain ⟨k1,k2⟩:=Ayo c H w hr.hr (fun i=>i ∈ hl.map (·.1))
 refine ⟨_,⟨k1.eqH ?_,hr.size,fun t ht=>?_⟩,hd,g.trans k2,fun i hi=>?_⟩
 ·funext i
  unfold mkH
  cases hf : hl.find? (fun p=>p.1==i) with
  | none =>
   have : i ∉ hl.map (·.1):=by
    intro hm
    obtain ⟨p,hp,rfl⟩:=List.mem_map.1 hm
    have:=List.find?_eq_none.1 hf p hp
    simp at this
   rw [if_neg this]; rfl
  | some p =>
   have h3:=List.mem_of_find?_eq_some hf
   have h4 : p.1=i:=by simpa using List.find?_some hf
   subst h4
   rw [if_pos (List.mem_map.2 ⟨p,h3,rfl⟩),h2 p h3]; rfl
 ·unfold mkS
  cases hf : l.find? (fun p=>p.1==t) with
  | none=>simp [Rep]
  | some p =>
   have h3:=List.mem_of_find?_eq_some hf
   have h4 : p.1=t:=by simpa using List.find?_some hf
   subst h4
   simp only []
   rw [← h1 p h3]
   exact (hr.slot _ ht).mono k2.le _ _
 ·have:=hu i (by omega)
  simp [this,Aei.dim]
theorem AW.weak {x : Code} (l : List (Nat×AV)) (hl : List (Nat×AaZ)) (N' : Nat) (h1 : ∀ p ∈ l,s p.1=p.2) (h2 : ∀ p ∈ hl,H p.1=some p.2) (hN : N≤N') (h : AW P n c0 w0 x Q (mkS l) (mkH hl) N') : AW P n c0 w0 x Q s H N :=
 fun a w hs=>h a w (hs.weak l hl N' h1 h2 hN)
theorem AW.loop {c : Code} {α : Type} (inv : α→Prop) (m : α→Nat) (L : α→List (Nat×AV)) (O : α→List (Nat×AaZ)) (M : α→Nat) (x0 : α) (h0 : inv x0) (h1 : ∀ p ∈ L x0,s p.1=p.2) (h2 : ∀ p ∈ O x0,H p.1=some p.2) (hN : N≤M x0)
 (round : ∀ x,inv x→∀ K : (Nat→AV)→Aac→Nat→Prop,(∀ y s' H' N',inv y→m y<m x→(∀ p ∈ L y,s' p.1=p.2)→(∀ p ∈ O y,H' p.1=some p.2)→N'≤M y→K s' H' N') →
  AW P n c0 w0 c (AcH.then K Q) (mkS (L x)) (mkH (O x)) (M x)) : AW P n c0 w0 (.loop c) Q s H N:=by
 classical
 intro a w hs
 let J : Nat→Act→World→Prop:=fun k a w=>∃ x,inv x∧m x=k∧St n c0 w0 (mkS (L x)) (mkH (O x)) (M x) a w
 have key : ∀ k a w,J k a w→(Code.loop c).wp P (Q.real n c0 w0) a w:=by
  intro k0 a w hJ
  let μ : Act→World→Nat:=fun a w=>if h : ∃ k,J k a w then Classical.choose (least _ h) else 0
  have hμ : ∀ a w,(∃ k,J k a w)→J (μ a w) a w∧∀ j,J j a w→μ a w≤j:=by
   intro a w h
   have : μ a w=Classical.choose (least _ h):=by simp only [μ,h,dif_pos]
   rw [this]
   exact Classical.choose_spec (least _ h)
  refine wp_loop (fun a w=>∃ k,J k a w) μ ⟨k0,hJ⟩ ?_
  intro a w hk
  obtain ⟨x,hx,hm,hst⟩:=(hμ a w hk).1
  refine wp_mono (round x hx (fun s' H' N'=>∃ y,inv y∧m y<m x∧(∀ p ∈ L y,s' p.1=p.2)∧(∀ p ∈ O y,H' p.1=some p.2)∧N'≤M y) (fun y s' H' N' a b c d e=>⟨y,a,b,c,d,e⟩) a w hst) ?_
  intro e a' w' ⟨s',H',N',q,st⟩
  cases e with
  | normal =>
   obtain ⟨y,k1,k2,k3,k4,k5⟩:=q
   have hJy : J (m y) a' w':=⟨y,k1,rfl,st.weak (L y) (O y) (M y) k3 k4 k5⟩
   refine ⟨⟨m y,hJy⟩,?_⟩
   have:=(hμ a' w' ⟨_,hJy⟩).2 _ hJy
   omega
  | _=>exact ⟨s',H',N',q,st⟩
 exact key (m x0) a w ⟨x0,h0,rfl,hs.weak (L x0) (O x0) (M x0) h1 h2 hN⟩
end
end Go.Abs
